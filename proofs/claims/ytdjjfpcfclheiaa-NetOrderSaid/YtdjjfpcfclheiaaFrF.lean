/- Frames: Same; unlike frames have unlike bytes; the law FrameApart. -/
import Derived.Test.YtdjjfpcfclheiaaFrE
set_option linter.unusedSimpArgs false
set_option linter.unusedVariables false
namespace Go.Proofs.Ytdjjfpcfclheiaa.Frm
open Go Go.RowKit Go.Proofs Go.Trc Go.Sx
set_option maxRecDepth 10000

theorem u8_inj {x y : Int} (hx : 0 ≤ x ∧ x < 256) (hy : 0 ≤ y ∧ y < 256) (h : u8 x = u8 y) : x = y := by
  have h1 := congrArg UInt8.toNat h
  have e : ∀ z : Int, 0 ≤ z ∧ z < 256 → (u8 z).toNat = z.toNat := fun z hz => by
    unfold u8
    rw [UInt8.toNat_ofNat', Int.emod_eq_of_lt hz.1 hz.2]
    omega
  rw [e x hx, e y hy] at h1
  omega
theorem u8_mod (x : Int) : u8 x = u8 (x % 256) := by unfold u8; rw [Int.emod_emod_of_dvd _ (Int.dvd_refl _)]
theorem fourV_inj {x y : Int} (hx : 0 ≤ x ∧ x < 4294967296) (hy : 0 ≤ y ∧ y < 4294967296) (h : fourV x = fourV y) : x = y := by
  unfold fourV at h
  simp only [List.cons.injEq, and_true] at h
  obtain ⟨h1, h2, h3, h4⟩ := h
  rw [fdiv_nn hx.1, fdiv_nn hy.1] at h1 h2 h3 h4
  have f : ∀ a b : Int, u8 a = u8 b → a % 256 = b % 256 := fun a b hab => by
    rw [u8_mod a, u8_mod b] at hab
    exact u8_inj ⟨Int.emod_nonneg _ (by decide), Int.emod_lt_of_pos _ (by decide)⟩ ⟨Int.emod_nonneg _ (by decide), Int.emod_lt_of_pos _ (by decide)⟩ hab
  have g1 := f _ _ h1
  have g2 := f _ _ h2
  have g3 := f _ _ h3
  have g4 := f _ _ h4
  simp only [show (2 : Int) ^ 24 = 16777216 from rfl, show (2 : Int) ^ 16 = 65536 from rfl, show (2 : Int) ^ 8 = 256 from rfl, show (2 : Int) ^ 0 = 1 from rfl] at g1 g2 g3 g4
  omega
theorem may_more {kd fr to ep sq ak : Int} {n : Nat} (h : mayF kd fr to ep sq ak n = 0) : (0 ≤ kd ∧ kd < 256) ∧ (0 ≤ fr ∧ fr < 256) ∧ (0 ≤ to ∧ to < 256) := by
  unfold mayF at h
  cases hh : headOk kd fr to ep sq ak with
  | false => rw [hh] at h; simp at h
  | true =>
    unfold headOk at hh
    simp only [Bool.and_eq_true, cnt, decide_eq_true_eq] at hh
    refine ⟨?_, ?_, ?_⟩ <;> omega
def sameF (kd fr to ep sq ak : Int) (bd : List UInt8) (kd' fr' to' ep' sq' ak' : Int) (bd' : List UInt8) : Bool := decide (kd = kd' ∧ fr = fr' ∧ to = to' ∧ ep = ep' ∧ sq = sq' ∧ ak = ak' ∧ bd = bd')
theorem putV_inj {kd fr to ep sq ak kd' fr' to' ep' sq' ak' : Int} {bd bd' : List UInt8} {n n' : Nat} (h1 : mayF kd fr to ep sq ak n = 0) (h2 : mayF kd' fr' to' ep' sq' ak' n' = 0) :
    decide (putV kd fr to ep sq ak bd = putV kd' fr' to' ep' sq' ak' bd') = sameF kd fr to ep sq ak bd kd' fr' to' ep' sq' ak' bd' := by
  unfold sameF
  apply decide_eq_decide.2
  constructor
  · intro h
    have hl := congrArg List.length h
    rw [put_len, put_len] at hl
    have hh := (List.append_inj h (by rw [head_len, head_len]; omega)).1
    obtain ⟨p1, p2, p3, _⟩ := may_facts h1
    obtain ⟨q1, q2, q3, _⟩ := may_facts h2
    obtain ⟨m1, m2, m3⟩ := may_more h1
    obtain ⟨k1, k2, k3⟩ := may_more h2
    unfold headV at hh
    have l4 : ∀ x, (fourV x).length = 4 := fun _ => rfl
    obtain ⟨hh, e7⟩ := List.append_inj hh (by simp [l4])
    obtain ⟨hh, e6⟩ := List.append_inj hh (by simp [l4])
    obtain ⟨hh, e5⟩ := List.append_inj hh (by simp [l4])
    obtain ⟨hh, e4⟩ := List.append_inj hh (by simp [l4])
    simp only [List.cons.injEq, and_true] at hh
    exact ⟨u8_inj m1 k1 hh.1, u8_inj m2 k2 hh.2.1, u8_inj m3 k3 hh.2.2, fourV_inj p1 q1 e4, fourV_inj p2 q2 e5, fourV_inj p3 q3 e6, e7⟩
  · rintro ⟨rfl, rfl, rfl, rfl, rfl, rfl, rfl⟩
    rfl

theorem str_eq (xs ys : List UInt8) : (((⟨xs.toArray⟩ : ByteArray)).toList == ((⟨ys.toArray⟩ : ByteArray)).toList) = decide (xs = ys) := by
  by_cases h : xs = ys
  · subst h; simp
  · rw [decide_eq_false h]
    simp only [beq_eq_false_iff_ne, ne_eq, bytes_toList_inj]
    intro h2
    apply h
    simpa using h2

set_option maxHeartbeats 2000000 in
theorem same_c {w : World} {kd fr to ep sq ak kd' fr' to' ep' sq' ak' : Int} {A A' : Option Addr} {n c n' c' : Nat} {bd bd' : List UInt8} {ok ok' : Nat → Prop} (h : Sl w ok (.slice A n c) bd) (h' : Sl w ok' (.slice A' n' c') bd') :
    Calls Try.prog 32 #[.agg #[.int .i64 kd, .int .i64 fr, .int .i64 to, .int .i64 ep, .int .i64 sq, .int .i64 ak, .slice A n c], .agg #[.int .i64 kd', .int .i64 fr', .int .i64 to', .int .i64 ep', .int .i64 sq', .int .i64 ak', .slice A' n' c']] w
      (Ret (.bool (sameF kd fr to ep sq ak bd kd' fr' to' ep' sq' ak' bd')) w) := by
  refine same_sx _ (fun _ => False) w kd fr to ep sq ak A n c kd' fr' to' ep' sq' ak' A' n' c' ?_
  intro g1 hg1 g2 hg2
  have no : ¬ (kd = kd' ∧ fr = fr' ∧ to = to' ∧ ep = ep' ∧ sq = sq' ∧ ak = ak' ∧ bd = bd') → sameF kd fr to ep sq ak bd kd' fr' to' ep' sq' ak' bd' = false := fun h => decide_eq_false h
  refine ⟨fun e1 => ⟨fun e2 => ⟨fun e3 => ⟨fun e4 => ⟨fun e5 => ⟨fun e6 w1 f1 b1 => ?_, fun x w1 f1 b1 => ret_leaf f1 ?_⟩, fun x w1 f1 b1 => ret_leaf f1 ?_⟩, fun x w1 f1 b1 => ret_leaf f1 ?_⟩, fun x w1 f1 b1 => ret_leaf f1 ?_⟩, fun x w1 f1 b1 => ret_leaf f1 ?_⟩, fun x w1 f1 b1 => ret_leaf f1 ?_⟩
  · refine ⟨_, str_c (h.below b1), _, str_c (h'.below b1), ret_leaf f1 ?_⟩
    rw [str_eq]
    unfold sameF
    simp [e1, e2, e3, e4, e5, e6]
  all_goals (rw [no (fun q => x (by simp [q]))])

theorem eql_bool (W : World) (x y : Bool) : (binOp .eql 4 (.bool x) (.bool y)).run Try.prog W = .ok (.bool (x == y)) W := by
  go_simp

theorem own_ne {w : World} {base g : Nat} {e t : TypeId} {v : Value} {xs : List UInt8} {C : Array Value} {fr : Nat × Nat} (h : OwnF w base e v xs) (hg : w.heap[g]? = some (.cells C t fr)) (ht : t ≠ e) : v.ownBlock ≠ some g := by
  obtain ⟨cs, ⟨_, h2⟩, _⟩ := h
  rcases h2 with ⟨rfl, _⟩ | ⟨g', cap, cur, rfl, _, hg', _⟩
  · simp [Value.ownBlock]
  · intro he
    injection he with he
    have he : g' = g := he
    subst he
    rw [hg] at hg'
    injection hg' with hg'
    injection hg' with _ h5
    exact ht h5

end Go.Proofs.Ytdjjfpcfclheiaa.Frm
