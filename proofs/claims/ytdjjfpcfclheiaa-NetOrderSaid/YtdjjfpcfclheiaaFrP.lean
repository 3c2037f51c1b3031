/- Frames: what was laid down is taken as it was (no program here). -/
import Derived.Test.YtdjjfpcfclheiaaFrV
set_option linter.unusedSimpArgs false
set_option linter.unusedVariables false
namespace Go.Proofs.Ytdjjfpcfclheiaa.Frm
open Go Go.RowKit Go.Proofs Go.Trc Go.Sx
set_option maxRecDepth 10000

theorem u8_nat {x : Int} (h : 0 ≤ x ∧ x < 256) : (((u8 x).toNat : Nat) : Int) = x := by
  unfold u8
  rw [UInt8.toNat_ofNat', Int.emod_eq_of_lt h.1 h.2]
  omega
theorem u8_shr {x : Int} (k : Nat) (h : 0 ≤ x) : (((u8 (x.fdiv (2 ^ k))).toNat : Nat) : Int) = x / 2 ^ k % 256 := by
  rw [fdiv_nn h, u8_mod, u8_nat]
  exact ⟨Int.emod_nonneg _ (by decide), Int.emod_lt_of_pos _ (by decide)⟩
theorem num4_four {x : Int} (h : 0 ≤ x ∧ x < 4294967296) : num4 (fourV x) = x := by
  simp only [num4, fourV, List.foldl_cons, List.foldl_nil, u8_shr _ h.1]
  have e0 : (2 : Int) ^ 0 = 1 := rfl
  have e1 : (2 : Int) ^ 8 = 256 := rfl
  have e2 : (2 : Int) ^ 16 = 65536 := rfl
  have e3 : (2 : Int) ^ 24 = 16777216 := rfl
  rw [e0, e1, e2, e3]
  omega
theorem putV_cons (kd fr to ep sq ak : Int) (bd : List UInt8) : putV kd fr to ep sq ak bd = u8 kd :: u8 fr :: u8 to :: (fourV ep ++ (fourV sq ++ (fourV ak ++ (bd ++ (fourV ((sumV (headV kd fr to ep sq ak bd)).toNat : Int)).reverse)))) := by
  unfold putV
  generalize (fourV ((sumV (headV kd fr to ep sq ak bd)).toNat : Int)).reverse = z
  unfold headV
  simp only [List.append_assoc, List.cons_append, List.nil_append]
theorem body_put (kd fr to ep sq ak : Int) (bd : List UInt8) : bodyV (putV kd fr to ep sq ak bd) = bd := by
  unfold bodyV
  rw [put_len]
  unfold putV
  rw [List.take_append_of_le_length (by rw [head_len]; omega), List.take_of_length_le (by rw [head_len]; omega)]
  unfold headV
  rw [List.drop_append_of_le_length (by simp [fourV])]
  simp [fourV]
theorem take_put {kd fr to ep sq ak : Int} {bd : List UInt8} (h : mayF kd fr to ep sq ak bd.length = 0) : takeV (putV kd fr to ep sq ak bd) = (⟨kd, fr, to, ep, sq, ak, bd⟩, 0) := by
  obtain ⟨h1, h2, h3, h4⟩ := may_facts h
  obtain ⟨k1, k2, k3⟩ := may_more h
  have e0 : by_ (putV kd fr to ep sq ak bd) 0 = kd := by rw [putV_cons]; unfold by_; simp [u8_nat k1]
  have e1 : by_ (putV kd fr to ep sq ak bd) 1 = fr := by rw [putV_cons]; unfold by_; simp [u8_nat k2]
  have e2 : by_ (putV kd fr to ep sq ak bd) 2 = to := by rw [putV_cons]; unfold by_; simp [u8_nat k3]
  have e3 : fld (putV kd fr to ep sq ak bd) 3 = ep := by
    rw [putV_cons]; unfold fld
    rw [show (List.drop 3 (u8 kd :: u8 fr :: u8 to :: (fourV ep ++ (fourV sq ++ (fourV ak ++ (bd ++ (fourV ((sumV (headV kd fr to ep sq ak bd)).toNat : Int)).reverse)))))).take 4 = fourV ep by simp [fourV]]
    exact num4_four h1
  have e4 : fld (putV kd fr to ep sq ak bd) 7 = sq := by
    rw [putV_cons]; unfold fld
    rw [show (List.drop 7 (u8 kd :: u8 fr :: u8 to :: (fourV ep ++ (fourV sq ++ (fourV ak ++ (bd ++ (fourV ((sumV (headV kd fr to ep sq ak bd)).toNat : Int)).reverse)))))).take 4 = fourV sq by simp [fourV]]
    exact num4_four h2
  have e5 : fld (putV kd fr to ep sq ak bd) 11 = ak := by
    rw [putV_cons]; unfold fld
    rw [show (List.drop 11 (u8 kd :: u8 fr :: u8 to :: (fourV ep ++ (fourV sq ++ (fourV ak ++ (bd ++ (fourV ((sumV (headV kd fr to ep sq ak bd)).toNat : Int)).reverse)))))).take 4 = fourV ak by simp [fourV]]
    exact num4_four h3
  have e6 := body_put kd fr to ep sq ak bd
  have ht : takeOk (putV kd fr to ep sq ak bd) = true := by
    unfold takeOk
    rw [e0, e1, e2, e3, e4, e5, e6, h, put_len]
    simp
  unfold takeV
  rw [ht, if_pos rfl, e0, e1, e2, e3, e4, e5, e6]
end Go.Proofs.Ytdjjfpcfclheiaa.Frm
