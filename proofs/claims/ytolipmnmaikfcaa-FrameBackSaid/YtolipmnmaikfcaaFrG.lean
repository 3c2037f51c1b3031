/- Frames: the law FrameBack. -/
import Derived.Test.YtolipmnmaikfcaaFrQ
import Derived.Test.YtolipmnmaikfcaaFrN
import Derived.Test.YtolipmnmaikfcaaFrT
set_option linter.unusedSimpArgs false
set_option linter.unusedVariables false
namespace Go.Proofs.Ytolipmnmaikfcaa
open Go Go.RowKit Go.Proofs Go.Trc Go.Sx

/-- The first k of the bytes from 'p' on are turned. -/
def Lk (au es : List UInt8) (p k : Nat) : List UInt8 := au.take p ++ List.zipWith (· ^^^ ·) ((au.drop p).take k) (es.take k) ++ au.drop (p + k)
theorem Lk_zero (au es : List UInt8) (p : Nat) : Lk au es p 0 = au := by simp [Lk]
theorem Lk_len {au es : List UInt8} {p k : Nat} (h1 : p + k ≤ au.length) (h2 : k ≤ es.length) : (Lk au es p k).length = au.length := by simp [Lk]; omega
theorem Lk_get {au es : List UInt8} {p k : Nat} (h1 : p + k < au.length) (h2 : k ≤ es.length) (h : p + k < (Lk au es p k).length) : (Lk au es p k)[p + k] = au[p + k] := by
  have hz : (au.take p ++ List.zipWith (· ^^^ ·) ((au.drop p).take k) (es.take k)).length = p + k := by simp; omega
  have e1 : (Lk au es p k)[p + k]? = some au[p + k] := by
    unfold Lk
    rw [List.getElem?_append_right (by omega), hz, Nat.sub_self, List.getElem?_drop, List.getElem?_eq_getElem (by omega)]
    simp
  rw [List.getElem?_eq_getElem h] at e1
  injection e1
theorem Lk_set {au es : List UInt8} {p k : Nat} (h1 : p + k < au.length) (h2 : k < es.length) : (Lk au es p k).set (p + k) (au[p + k] ^^^ es[k]) = Lk au es p (k + 1) := by
  have hz : (au.take p ++ List.zipWith (· ^^^ ·) ((au.drop p).take k) (es.take k)).length = p + k := by simp; omega
  unfold Lk
  rw [List.set_append_right _ _ (by omega), hz, Nat.sub_self, List.drop_eq_getElem_cons (by omega : p + k < au.length)]
  have h5 : List.zipWith (· ^^^ ·) ((au.drop p).take (k + 1)) (es.take (k + 1)) = List.zipWith (· ^^^ ·) ((au.drop p).take k) (es.take k) ++ [au[p + k] ^^^ es[k]] := by
    rw [zip_take _ _ k (by simp; omega) h2]
    simp
  rw [h5]
  simp [Nat.add_assoc]
theorem nz_zip : ∀ (xs es : List UInt8), xs.length = es.length → nz es = 0 → List.zipWith (· ^^^ ·) xs es = xs
  | [], [], _, _ => rfl
  | x :: xs, e :: es, hl, h => by
    have he : e = 0 := by
      apply Classical.byContradiction
      intro he
      simp [nz, he] at h
    subst he
    have := nz_zip xs es (by simpa using hl) (by simpa [nz] using h)
    simp [this]
  | [], _ :: _, h, _ => by simp at h
  | _ :: _, [], h, _ => by simp at h
theorem Lk_tells {au es : List UInt8} {p k : Nat} (hv : takeOk au = true) (h1 : p + k ≤ au.length) (h2 : k ≤ es.length) (h4 : k ≤ 4) : (((takeV (Lk au es p k)).2 == (2 : Int)) == decide (nz (es.take k) ≠ 0)) = true := by
  have hm : au.take p ++ (au.drop p).take k ++ au.drop (p + k) = au := by
    rw [List.append_assoc, ← List.drop_drop, List.take_append_drop, List.take_append_drop]
  have hl : ((au.drop p).take k).length = (es.take k).length := by simp; omega
  by_cases hz : nz (es.take k) = 0
  · have : Lk au es p k = au := by unfold Lk; rw [nz_zip _ _ hl hz, hm]
    rw [this, hz]
    unfold takeV; rw [hv]; rfl
  · have : takeOk (Lk au es p k) = false := by
      cases hh : takeOk (Lk au es p k) with
      | false => rfl
      | true => exact absurd (burst hl (by simp; omega) (by rw [hm]; exact hv) hh) hz
    unfold takeV; rw [this, decide_eq_true hz]; rfl
theorem nz_next (es : List UInt8) (k : Nat) (h : k < es.length) (b : Bool) (hb : b = decide (nz (es.take k) ≠ 0)) : (b = true → true = decide (nz (es.take (k + 1)) ≠ 0)) ∧ (b = false → (((es[k].toNat : Int)) != 0) = decide (nz (es.take (k + 1)) ≠ 0)) := by
  rw [nz_take es k h]
  subst hb
  refine ⟨fun hb => ?_, fun hb => ?_⟩
  · have := of_decide_eq_true hb
    symm; apply decide_eq_true; omega
  · have := of_decide_eq_false hb
    have h0 : nz (es.take k) = 0 := by omega
    rw [h0]
    by_cases he : es[k] = 0
    · rw [if_pos he, he]; rfl
    · rw [if_neg he]
      have : ¬ (es[k].toNat = 0) := fun h => he ((u8_zero _).1 (by omega))
      simp [this]


set_option maxHeartbeats 8000000 in
theorem frameBack_loop {w w12 : World} {A45 : Option Addr} {n46 n47 g23 g24 g25 g63 base p : Nat} {au : List UInt8} {e0 e1 e2 e3 : UInt8} (f12 : Fr (fun _ => False) w w12) (hbase : w.heap.size ≤ base) (o12 : OwnF w12 base 5 (.slice A45 n46 n47) au)
    (hnames : ∀ k, (Value.slice A45 n46 n47).ownBlock = some k → k ∉ [g63, g25, g24, g23]) (hp : p < n46) (hlen : n46 ≤ 2000) (hv : takeOk au = true) :
∃ (I0 : Bool → Int → World → Prop) (M0 : Bool → Int → World → Nat), (I0 false (0 : Int) w12) ∧
           ∀ b69 : Bool, ∀ i70 : Int, ∀ w13 : World, Go.Sx.Fr (fun _ => False) w w13 → I0 b69 i70 w13 → 
            ((i70 < (4 : Int) →
            (((IntKind.i64.wrap ((p : Int) + i70)) < (n46 : Int) →
             (
              ((0 : Int) ≤ (IntKind.i64.wrap ((p : Int) + i70)) ∧ (IntKind.i64.wrap ((p : Int) + i70)) < (n46 : Int) ∧ ∃ p72 : Nat, ∃ o73 : Nat, A45 = some ⟨p72, o73, none⟩ ∧
              (∀ w14 : World, Go.Sx.Fr (fun _ => False) w w14 → Below w13.heap.size w13 w14 → ∃ i74 : Int, Go.Sx.CellsAt w14 p72 (o73 + ((IntKind.i64.wrap ((p : Int) + i70))).toNat * 1 + 0) [.int .u8 i74] ∧ (p72 < w13.heap.size ∧ p72 ∉ []) ∧ 
              ((i70 = (0 : Int) →
              ((0 : Int) ≤ (IntKind.i64.wrap ((p : Int) + i70)) ∧ (IntKind.i64.wrap ((p : Int) + i70)) < (n46 : Int) ∧ ∃ p75 : Nat, ∃ o76 : Nat, A45 = some ⟨p75, o76, none⟩ ∧
               (
               ∃ w15 : World, (Instr.storeAt 5 (.pointer (some ⟨p75, o76 + ((IntKind.i64.wrap ((p : Int) + i70))).toNat * 1 + 0, none⟩)) (.int .u8 (bits .xor .u8 i74 (e0.toNat : Int)))).run Try.prog w14 = .ok () w15 ∧ (Go.Sx.Fr (fun _ => False) w w15 ∧ Go.Sx.Mild [g63, g25, g24, g23] w14 w15) ∧ 
               ((b69 = true →
               (I0 true (IntKind.i64.wrap (i70 + (1 : Int))) w15 ∧ M0 true (IntKind.i64.wrap (i70 + (1 : Int))) w15 < M0 b69 i70 w13)) ∧
               (b69 = false →
               (I0 ((e0.toNat : Int) != (0 : Int)) (IntKind.i64.wrap (i70 + (1 : Int))) w15 ∧ M0 ((e0.toNat : Int) != (0 : Int)) (IntKind.i64.wrap (i70 + (1 : Int))) w15 < M0 b69 i70 w13)))))) ∧
              (¬ i70 = (0 : Int) →
              ((i70 = (1 : Int) →
               ((0 : Int) ≤ (IntKind.i64.wrap ((p : Int) + i70)) ∧ (IntKind.i64.wrap ((p : Int) + i70)) < (n46 : Int) ∧ ∃ p75 : Nat, ∃ o76 : Nat, A45 = some ⟨p75, o76, none⟩ ∧
                (
                ∃ w15 : World, (Instr.storeAt 5 (.pointer (some ⟨p75, o76 + ((IntKind.i64.wrap ((p : Int) + i70))).toNat * 1 + 0, none⟩)) (.int .u8 (bits .xor .u8 i74 (e1.toNat : Int)))).run Try.prog w14 = .ok () w15 ∧ (Go.Sx.Fr (fun _ => False) w w15 ∧ Go.Sx.Mild [g63, g25, g24, g23] w14 w15) ∧ 
                ((b69 = true →
                (I0 true (IntKind.i64.wrap (i70 + (1 : Int))) w15 ∧ M0 true (IntKind.i64.wrap (i70 + (1 : Int))) w15 < M0 b69 i70 w13)) ∧
                (b69 = false →
                (I0 ((e1.toNat : Int) != (0 : Int)) (IntKind.i64.wrap (i70 + (1 : Int))) w15 ∧ M0 ((e1.toNat : Int) != (0 : Int)) (IntKind.i64.wrap (i70 + (1 : Int))) w15 < M0 b69 i70 w13)))))) ∧
               (¬ i70 = (1 : Int) →
               ((i70 = (2 : Int) →
                ((0 : Int) ≤ (IntKind.i64.wrap ((p : Int) + i70)) ∧ (IntKind.i64.wrap ((p : Int) + i70)) < (n46 : Int) ∧ ∃ p75 : Nat, ∃ o76 : Nat, A45 = some ⟨p75, o76, none⟩ ∧
                 (
                 ∃ w15 : World, (Instr.storeAt 5 (.pointer (some ⟨p75, o76 + ((IntKind.i64.wrap ((p : Int) + i70))).toNat * 1 + 0, none⟩)) (.int .u8 (bits .xor .u8 i74 (e2.toNat : Int)))).run Try.prog w14 = .ok () w15 ∧ (Go.Sx.Fr (fun _ => False) w w15 ∧ Go.Sx.Mild [g63, g25, g24, g23] w14 w15) ∧ 
                 ((b69 = true →
                 (I0 true (IntKind.i64.wrap (i70 + (1 : Int))) w15 ∧ M0 true (IntKind.i64.wrap (i70 + (1 : Int))) w15 < M0 b69 i70 w13)) ∧
                 (b69 = false →
                 (I0 ((e2.toNat : Int) != (0 : Int)) (IntKind.i64.wrap (i70 + (1 : Int))) w15 ∧ M0 ((e2.toNat : Int) != (0 : Int)) (IntKind.i64.wrap (i70 + (1 : Int))) w15 < M0 b69 i70 w13)))))) ∧
                (¬ i70 = (2 : Int) →
                (i70 = (3 : Int) ∧
                 ((0 : Int) ≤ (IntKind.i64.wrap ((p : Int) + i70)) ∧ (IntKind.i64.wrap ((p : Int) + i70)) < (n46 : Int) ∧ ∃ p75 : Nat, ∃ o76 : Nat, A45 = some ⟨p75, o76, none⟩ ∧
                 (
                 ∃ w15 : World, (Instr.storeAt 5 (.pointer (some ⟨p75, o76 + ((IntKind.i64.wrap ((p : Int) + i70))).toNat * 1 + 0, none⟩)) (.int .u8 (bits .xor .u8 i74 (e3.toNat : Int)))).run Try.prog w14 = .ok () w15 ∧ (Go.Sx.Fr (fun _ => False) w w15 ∧ Go.Sx.Mild [g63, g25, g24, g23] w14 w15) ∧ 
                 ((b69 = true →
                 (I0 true (IntKind.i64.wrap (i70 + (1 : Int))) w15 ∧ M0 true (IntKind.i64.wrap (i70 + (1 : Int))) w15 < M0 b69 i70 w13)) ∧
                 (b69 = false →
                 (i70 = (3 : Int) ∧
                  (I0 ((e3.toNat : Int) != (0 : Int)) (IntKind.i64.wrap (i70 + (1 : Int))) w15 ∧ M0 ((e3.toNat : Int) != (0 : Int)) (IntKind.i64.wrap (i70 + (1 : Int))) w15 < M0 b69 i70 w13))))))))))))))))) ∧
             ((n46 : Int) ≤ (IntKind.i64.wrap ((p : Int) + i70)) →
             (
              Calls Try.prog 18 #[(.slice A45 n46 n47)] w13 fun r w14 => ∃ i71 : Int, ∃ i72 : Int, ∃ i73 : Int, ∃ i74 : Int, ∃ i75 : Int, ∃ i76 : Int, ∃ A77 : Option Addr, ∃ n78 : Nat, ∃ n79 : Nat, ∃ i80 : Int, r = .returned (.tuple #[.agg #[.int .i64 i71, .int .i64 i72, .int .i64 i73, .int .i64 i74, .int .i64 i75, .int .i64 i76, .slice A77 n78 n79], .int .i64 i80]) ∧ (Go.Sx.Fr (fun _ => False) w w14 ∧ Go.Sx.Mild [g63, g25, g24, g23] w13 w14) ∧ 
              ∀ g81 : Nat, w.heap.size ≤ g81 → (∀ w15 : World, Go.Sx.Fr (fun _ => False) w w15 → Below w14.heap.size w14 w15 → w14.heap.size ≤ g81 → w15.heap[g81]? = some (.cells #[.int .i64 i71, .int .i64 i72, .int .i64 i73, .int .i64 i74, .int .i64 i75, .int .i64 i76, .slice A77 n78 n79] 24 (0, 0)) → ∃ b82 : Bool, (binOp .eql 4 (.bool (i80 == (2 : Int))) (.bool b69)).run Try.prog w15 = .ok (.bool b82) w15 ∧
              ((Ret (.bool true) w) (.returned (.bool b82)) w15)))))) ∧
            ((4 : Int) ≤ i70 →
            (
             Calls Try.prog 18 #[(.slice A45 n46 n47)] w13 fun r w14 => ∃ i71 : Int, ∃ i72 : Int, ∃ i73 : Int, ∃ i74 : Int, ∃ i75 : Int, ∃ i76 : Int, ∃ A77 : Option Addr, ∃ n78 : Nat, ∃ n79 : Nat, ∃ i80 : Int, r = .returned (.tuple #[.agg #[.int .i64 i71, .int .i64 i72, .int .i64 i73, .int .i64 i74, .int .i64 i75, .int .i64 i76, .slice A77 n78 n79], .int .i64 i80]) ∧ (Go.Sx.Fr (fun _ => False) w w14 ∧ Go.Sx.Mild [g63, g25, g24, g23] w13 w14) ∧ 
             ∀ g81 : Nat, w.heap.size ≤ g81 → (∀ w15 : World, Go.Sx.Fr (fun _ => False) w w15 → Below w14.heap.size w14 w15 → w14.heap.size ≤ g81 → w15.heap[g81]? = some (.cells #[.int .i64 i71, .int .i64 i72, .int .i64 i73, .int .i64 i74, .int .i64 i75, .int .i64 i76, .slice A77 n78 n79] 24 (0, 0)) → ∃ b82 : Bool, (binOp .eql 4 (.bool (i80 == (2 : Int))) (.bool b69)).run Try.prog w15 = .ok (.bool b82) w15 ∧
             ((Ret (.bool true) w) (.returned (.bool b82)) w15)))))
  := by
  have hn := (o12.to (ok := fun _ => True) fun _ _ => trivial).len_eq
  refine ⟨fun b i w13 => ∃ k : Nat, i = k ∧ k ≤ 4 ∧ p + k ≤ n46 ∧ b = decide (nz ([e0, e1, e2, e3].take k) ≠ 0) ∧ OwnF w13 base 5 (.slice A45 n46 n47) (Lk au [e0, e1, e2, e3] p k), fun _ i _ => (4 - i).toNat,
    ⟨0, rfl, by omega, by omega, by simp [nz], by rw [Lk_zero]; exact o12⟩, ?_⟩
  rintro b69 i70 w13 f13 ⟨k, rfl, hk4, hpk, hb, oz⟩
  have wp : IntKind.i64.wrap ((p : Int) + (k : Int)) = ((p + k : Nat) : Int) := by rw [wrap_in (by omega)]; rfl
  have wk : IntKind.i64.wrap ((k : Int) + 1) = ((k + 1 : Nat) : Int) := by rw [wrap_in (by omega)]; rfl
  have hzl : (Lk au [e0, e1, e2, e3] p k).length = au.length := Lk_len (by omega) (by simpa using hk4)
  have fin : ∀ w13 : World, Fr (fun _ => False) w w13 → OwnF w13 base 5 (.slice A45 n46 n47) (Lk au [e0, e1, e2, e3] p k) → b69 = decide (nz ([e0, e1, e2, e3].take k) ≠ 0) →
Calls Try.prog 18 #[(.slice A45 n46 n47)] w13 fun r w14 => ∃ i71 : Int, ∃ i72 : Int, ∃ i73 : Int, ∃ i74 : Int, ∃ i75 : Int, ∃ i76 : Int, ∃ A77 : Option Addr, ∃ n78 : Nat, ∃ n79 : Nat, ∃ i80 : Int, r = .returned (.tuple #[.agg #[.int .i64 i71, .int .i64 i72, .int .i64 i73, .int .i64 i74, .int .i64 i75, .int .i64 i76, .slice A77 n78 n79], .int .i64 i80]) ∧ (Go.Sx.Fr (fun _ => False) w w14 ∧ Go.Sx.Mild [g63, g25, g24, g23] w13 w14) ∧ 
             ∀ g81 : Nat, w.heap.size ≤ g81 → (∀ w15 : World, Go.Sx.Fr (fun _ => False) w w15 → Below w14.heap.size w14 w15 → w14.heap.size ≤ g81 → w15.heap[g81]? = some (.cells #[.int .i64 i71, .int .i64 i72, .int .i64 i73, .int .i64 i74, .int .i64 i75, .int .i64 i76, .slice A77 n78 n79] 24 (0, 0)) → ∃ b82 : Bool, (binOp .eql 4 (.bool (i80 == (2 : Int))) (.bool b69)).run Try.prog w15 = .ok (.bool b82) w15 ∧
             ((Ret (.bool true) w) (.returned (.bool b82)) w15))
    := by
    intro w13 f13 oz hb
    refine (take_c (Sl.here (oz.to (ok := fun _ => True) fun _ _ => trivial)) (by omega)).mono ?_
    rintro e w14 ⟨A77, n78, n79, rfl, s14, b14⟩
    refine ⟨_, _, _, _, _, _, A77, n78, n79, _, rfl, ok_ret b14 f13, ?_⟩
    intro g81 hg81 w15 f15 b15 lo t
    refine ⟨_, eql_bool w15 _ _, ret_leaf f15 ?_⟩
    rw [hb, Lk_tells hv (by omega) (by simpa using hk4) hk4]
  rw [wp]
  refine ⟨fun hlt => ⟨fun hlt2 => ?_, fun hge2 => fin w13 f13 oz hb⟩, fun hge => fin w13 f13 oz hb⟩
  obtain ⟨g, rfl⟩ := own_at oz (by omega)
  have gl := (oz.lt g rfl).2
  refine ⟨by omega, by omega, g, 0, rfl, fun w14 f14 b14 => ⟨(au[p + k].toNat : Int), ?_, ⟨gl, by simp⟩, ?_⟩⟩
  · have := elem_at (OwnF.to (oz.below b14) (ok := fun _ => True) fun _ _ => trivial) (p + k) (by omega)
    rw [Lk_get (by omega) (by simpa using hk4)] at this
    exact this
  rw [wk]
  refine ⟨fun h0 => ?_, fun h0 => ⟨fun h1 => ?_, fun h1 => ⟨fun h2 => ?_, fun h2 => ⟨by omega, ?_⟩⟩⟩⟩
  · skip
    -- byte 0 of the four
    obtain rfl : k = 0 := by omega
    obtain ⟨w15, hr15, o15, gr15⟩ := own_set_byte (P := Try.prog) (t := 5) rfl rfl (oz.below b14) (p + 0) (by omega) (au[p + 0] ^^^ e0)
    have hset : (Lk au [e0, e1, e2, e3] p 0).set (p + 0) (au[p + 0] ^^^ e0) = Lk au [e0, e1, e2, e3] p (0 + 1) := Lk_set (by omega) (by simp)
    rw [hset] at o15
    have hnz := nz_next [e0, e1, e2, e3] 0 (by simp) b69 hb
    refine ⟨by omega, by omega, g, 0, rfl, w15, ?_, ⟨grown_fr (B := 0) gr15 f14 (fun k' hk' => by injection hk' with hk'; have := (oz.lt g rfl).1; omega), grown_mild gr15 fun b' hb' hh => (hnames g rfl) (by injection hh with hh; subst hh; exact hb')⟩, fun hb1 => ?_, fun hb0 => ?_⟩
    · rw [bits8_xor]
      simp only [wp, Int.toNat_natCast, Nat.zero_add, Nat.mul_one, Nat.add_zero]
      exact hr15
    · exact ⟨⟨0 + 1, rfl, by omega, by omega, hnz.1 hb1, o15⟩, by show (4 - ((0 + 1 : Nat) : Int)).toNat < (4 - ((0 : Nat) : Int)).toNat; omega⟩
    · exact ⟨⟨0 + 1, rfl, by omega, by omega, hnz.2 hb0, o15⟩, by show (4 - ((0 + 1 : Nat) : Int)).toNat < (4 - ((0 : Nat) : Int)).toNat; omega⟩
  · skip
    -- byte 1 of the four
    obtain rfl : k = 1 := by omega
    obtain ⟨w15, hr15, o15, gr15⟩ := own_set_byte (P := Try.prog) (t := 5) rfl rfl (oz.below b14) (p + 1) (by omega) (au[p + 1] ^^^ e1)
    have hset : (Lk au [e0, e1, e2, e3] p 1).set (p + 1) (au[p + 1] ^^^ e1) = Lk au [e0, e1, e2, e3] p (1 + 1) := Lk_set (by omega) (by simp)
    rw [hset] at o15
    have hnz := nz_next [e0, e1, e2, e3] 1 (by simp) b69 hb
    refine ⟨by omega, by omega, g, 0, rfl, w15, ?_, ⟨grown_fr (B := 0) gr15 f14 (fun k' hk' => by injection hk' with hk'; have := (oz.lt g rfl).1; omega), grown_mild gr15 fun b' hb' hh => (hnames g rfl) (by injection hh with hh; subst hh; exact hb')⟩, fun hb1 => ?_, fun hb0 => ?_⟩
    · rw [bits8_xor]
      simp only [wp, Int.toNat_natCast, Nat.zero_add, Nat.mul_one, Nat.add_zero]
      exact hr15
    · exact ⟨⟨1 + 1, rfl, by omega, by omega, hnz.1 hb1, o15⟩, by show (4 - ((1 + 1 : Nat) : Int)).toNat < (4 - ((1 : Nat) : Int)).toNat; omega⟩
    · exact ⟨⟨1 + 1, rfl, by omega, by omega, hnz.2 hb0, o15⟩, by show (4 - ((1 + 1 : Nat) : Int)).toNat < (4 - ((1 : Nat) : Int)).toNat; omega⟩
  · skip
    -- byte 2 of the four
    obtain rfl : k = 2 := by omega
    obtain ⟨w15, hr15, o15, gr15⟩ := own_set_byte (P := Try.prog) (t := 5) rfl rfl (oz.below b14) (p + 2) (by omega) (au[p + 2] ^^^ e2)
    have hset : (Lk au [e0, e1, e2, e3] p 2).set (p + 2) (au[p + 2] ^^^ e2) = Lk au [e0, e1, e2, e3] p (2 + 1) := Lk_set (by omega) (by simp)
    rw [hset] at o15
    have hnz := nz_next [e0, e1, e2, e3] 2 (by simp) b69 hb
    refine ⟨by omega, by omega, g, 0, rfl, w15, ?_, ⟨grown_fr (B := 0) gr15 f14 (fun k' hk' => by injection hk' with hk'; have := (oz.lt g rfl).1; omega), grown_mild gr15 fun b' hb' hh => (hnames g rfl) (by injection hh with hh; subst hh; exact hb')⟩, fun hb1 => ?_, fun hb0 => ?_⟩
    · rw [bits8_xor]
      simp only [wp, Int.toNat_natCast, Nat.zero_add, Nat.mul_one, Nat.add_zero]
      exact hr15
    · exact ⟨⟨2 + 1, rfl, by omega, by omega, hnz.1 hb1, o15⟩, by show (4 - ((2 + 1 : Nat) : Int)).toNat < (4 - ((2 : Nat) : Int)).toNat; omega⟩
    · exact ⟨⟨2 + 1, rfl, by omega, by omega, hnz.2 hb0, o15⟩, by show (4 - ((2 + 1 : Nat) : Int)).toNat < (4 - ((2 : Nat) : Int)).toNat; omega⟩
  · skip
    -- byte 3 of the four
    obtain rfl : k = 3 := by omega
    obtain ⟨w15, hr15, o15, gr15⟩ := own_set_byte (P := Try.prog) (t := 5) rfl rfl (oz.below b14) (p + 3) (by omega) (au[p + 3] ^^^ e3)
    have hset : (Lk au [e0, e1, e2, e3] p 3).set (p + 3) (au[p + 3] ^^^ e3) = Lk au [e0, e1, e2, e3] p (3 + 1) := Lk_set (by omega) (by simp)
    rw [hset] at o15
    have hnz := nz_next [e0, e1, e2, e3] 3 (by simp) b69 hb
    refine ⟨by omega, by omega, g, 0, rfl, w15, ?_, ⟨grown_fr (B := 0) gr15 f14 (fun k' hk' => by injection hk' with hk'; have := (oz.lt g rfl).1; omega), grown_mild gr15 fun b' hb' hh => (hnames g rfl) (by injection hh with hh; subst hh; exact hb')⟩, fun hb1 => ?_, fun hb0 => ?_⟩
    · rw [bits8_xor]
      simp only [wp, Int.toNat_natCast, Nat.zero_add, Nat.mul_one, Nat.add_zero]
      exact hr15
    · exact ⟨⟨3 + 1, rfl, by omega, by omega, hnz.1 hb1, o15⟩, by show (4 - ((3 + 1 : Nat) : Int)).toNat < (4 - ((3 : Nat) : Int)).toNat; omega⟩
    · exact ⟨rfl, ⟨3 + 1, rfl, by omega, by omega, hnz.2 hb0, o15⟩, by show (4 - ((3 + 1 : Nat) : Int)).toNat < (4 - ((3 : Nat) : Int)).toNat; omega⟩

theorem put_same {kd fr to ep sq ak kd' fr' to' ep' sq' ak' : Int} {bd bd' : List UInt8} {n n' : Nat} (h1 : mayF kd fr to ep sq ak n = 0) (h2 : mayF kd' fr' to' ep' sq' ak' n' = 0) :
    ((((⟨(putV kd fr to ep sq ak bd).toArray⟩ : ByteArray)).toList == ((⟨(putV kd' fr' to' ep' sq' ak' bd').toArray⟩ : ByteArray)).toList)) = sameF kd fr to ep sq ak bd kd' fr' to' ep' sq' ak' bd' := by
  rw [str_eq, putV_inj h1 h2]
theorem neq_bool (W : World) (x y : Bool) : (binOp .neq 4 (.bool x) (.bool y)).run Try.prog W = .ok (.bool (x != y)) W := by
  go_simp
  cases x <;> cases y <;> rfl

set_option maxHeartbeats 8000000 in
theorem frameBack_wk {w : World} {kd fr to ep sq ak kd' fr' to' ep' sq' ak' at_ : Int} {A A' : Option Addr} {n c n' c' : Nat} {bd bd' : List UInt8} {e0 e1 e2 e3 : UInt8} (hr : ∀ v ∈ [ep, sq, ak], -9223372036854775808 ≤ v ∧ v ≤ 9223372036854775807)
    (hr' : ∀ v ∈ [ep', sq', ak'], -9223372036854775808 ≤ v ∧ v ≤ 9223372036854775807) (hbd : Sl w (fun b => b < w.heap.size) (.slice A n c) bd) (hbd' : Sl w (fun b => b < w.heap.size) (.slice A' n' c') bd') :
    Calls Try.prog 7 #[.agg #[.int .i64 kd, .int .i64 fr, .int .i64 to, .int .i64 ep, .int .i64 sq, .int .i64 ak, .slice A n c], .agg #[.int .i64 kd', .int .i64 fr', .int .i64 to', .int .i64 ep', .int .i64 sq', .int .i64 ak', .slice A' n' c'],
      .agg #[.int .i64 at_, .int .u8 (e0.toNat : Int), .int .u8 (e1.toNat : Int), .int .u8 (e2.toNat : Int), .int .u8 (e3.toNat : Int)]] w (Ret (.bool true) w) := by
  refine frameBack_sx _ (fun _ => False) w kd fr to ep sq ak A n c kd' fr' to' ep' sq' ak' A' n' c' at_ _ _ _ _ ?_
  intro g23 hg23 g24 hg24 g25 hg25 w1 f1 b1 lo25 t25 lo24 t24 lo23 t23
  have l25 := heap_lt t25
  have l24 := heap_lt t24
  have l23 := heap_lt t23
  refine (shown_c w1).mono ?_
  rintro e w2 ⟨rfl, b2⟩
  have f2 := f1.step b2
  refine ⟨_, rfl, ok_ret b2 f1, ?_⟩
  refine (few_c (Sl.same (hbd.below b1) f1 f2)).mono ?_
  rintro e w3 ⟨A3, n3, c3, rfl, s3, b3⟩
  have f3 := f2.step b3
  refine ⟨_, _, _, _, _, _, A3, n3, c3, rfl, ok_ret b3 f2, ?_⟩
  intro w4 f4 q4
  refine (few_c (Sl.same (hbd'.below b1) f1 f4)).mono ?_
  rintro e w5 ⟨A5, n5, c5, rfl, s5, b5⟩
  have f5 := f4.step b5
  refine ⟨_, _, _, _, _, _, A5, n5, c5, rfl, ok_ret b5 f4, ?_⟩
  refine ⟨fun _ w6 f6 _ => ret_leaf f6 rfl, fun hle1 => ⟨fun _ w6 f6 _ => ret_leaf f6 rfl, fun hle2 w6 f6 q6 => ?_⟩⟩
  have s3 := Sl.same s3 f2 f6
  have s5 := Sl.same s5 f4 f6
  generalize bd.take 16400 = bx at s3
  generalize bd'.take 16400 = by' at s5
  have n3e := s3.len
  have n5e := s5.len
  refine (put_c hr (Sl.any s3)).mono ?_
  rintro e w7 ⟨A7, n7, c7, rfl, o7, b7⟩
  have f7 := f6.step b7
  refine ⟨A7, n7, c7, _, rfl, ok_ret b7 f6, ?_⟩
  refine (put_c hr' (Sl.any (Sl.same s5 f6 f7))).mono ?_
  rintro e w8 ⟨A8, n8, c8, rfl, o8, b8⟩
  have f8 := f7.step b8
  refine ⟨A8, n8, c8, _, rfl, ok_ret b8 f7, ?_⟩
  have l7 := (o7.to (ok := fun _ => True) fun _ _ => trivial).len
  refine ⟨fun hne => ⟨fun _ => ret_leaf f8 ?_, fun h => by cases h⟩, fun hm => ⟨fun hne => ⟨fun _ => ret_leaf f8 rfl, fun h => by cases h⟩, fun hm' => ?_⟩⟩
  · rw [if_neg hne] at l7
    rw [l7]; rfl
  rw [if_pos hm] at o7
  rw [if_pos hm'] at o8
  rw [if_pos hm, put_len] at l7
  rw [n3e] at hm
  rw [n5e] at hm'
  have vok : takeOk (putV kd fr to ep sq ak bx) = true := by
    cases hh : takeOk (putV kd fr to ep sq ak bx) with
    | true => rfl
    | false =>
      have := congrArg Prod.snd (take_put hm)
      unfold takeV at this
      rw [hh] at this
      cases this
  refine (take_c (Sl.here (OwnF.to (o7.below b8) (ok := fun _ => True) fun _ _ => trivial)) (by omega)).mono ?_
  rintro e w9 ⟨A9, n9, c9, rfl, s9, b9⟩
  have f9 := f8.step b9
  rw [take_put hm] at s9 ⊢
  refine ⟨_, _, _, _, _, _, A9, n9, c9, _, rfl, ok_ret b9 f8, ?_⟩
  intro g63 hg63 w10 f10 b10 lo63 t63
  have c1 := same_c (kd := kd) (fr := fr) (to := to) (ep := ep) (sq := sq) (ak := ak) (kd' := kd) (fr' := fr) (to' := to) (ep' := ep) (sq' := sq) (ak' := ak) (s9.below b10) (Sl.same s3 f6 f10)
  rw [same_self] at c1
  refine c1.mono ?_
  rintro e w11 ⟨rfl, b11⟩
  have f11 := f10.step b11
  refine ⟨_, rfl, ok_ret b11 f10, ?_⟩
  refine (same_c (Sl.same s3 f6 f11) (Sl.same s5 f6 f11)).mono ?_
  rintro e w12 ⟨rfl, b12⟩
  have f12 := f11.step b12
  refine ⟨_, rfl, ok_ret b12 f11, ⟨(fun h => by cases h), fun _ => ⟨fun h => absurd rfl h, fun _ => ⟨(fun h => by cases h), fun _ => ?_⟩⟩⟩⟩
  have o12 := ((((o7.below b8).below b9).below b10).below b11).below b12
  have o12' := (((o8.below b9).below b10).below b11).below b12
  refine ⟨_, str_c (OwnF.to o12 (ok := fun _ => True) fun _ _ => trivial), _, str_c (OwnF.to o12' (ok := fun _ => True) fun _ _ => trivial), _, neq_bool w12 _ _, ?_⟩
  rw [put_same hm hm']
  refine ⟨(fun h => by simp at h), fun _ => ⟨fun _ => ret_leaf f12 rfl, fun h0 => ⟨fun _ => ret_leaf f12 rfl, fun hlt => ?_⟩⟩⟩
  obtain ⟨p, rfl⟩ : ∃ p : Nat, at_ = p := ⟨at_.toNat, by omega⟩
  refine frameBack_loop f12 f6.size o12 (fun k hk hm => ?_) (by omega) (by omega) vok
  have k1 := (o7.lt k hk)
  have z1 : w1.heap.size ≤ w6.heap.size := Nat.le_trans b2.size (Nat.le_trans b3.size (Nat.le_trans q4.size (Nat.le_trans b5.size q6.size)))
  have z2 := b8.size
  have z3 := b9.size
  simp only [List.mem_cons, List.not_mem_nil, or_false] at hm
  rcases hm with rfl | rfl | rfl | rfl <;> omega

abbrev TurnT := Int × (UInt8 × UInt8 × UInt8 × UInt8)
theorem rd_turn : Rd Try.prog 43 TurnT :=
  rd_struct Try.underlying43 (by kernel_rfl)
    (rdF_cons (by kernel_rfl) (rd_int Try.underlying3) rfl (rdF_last (by kernel_rfl) (rd_array Try.underlying41 (by kernel_rfl)
      (rdF_cons (by kernel_rfl) (rd_byte Try.underlying5) rfl (rdF_cons (by kernel_rfl) (rd_byte Try.underlying5) rfl (rdF_cons (by kernel_rfl) (rd_byte Try.underlying5) rfl (rdF_last (by kernel_rfl) (rd_byte Try.underlying5))))))))
theorem turn_of {w : World} {ok : Nat → Prop} {v : Value} {x : TurnT} (h : Rep.K w ok x v.cells.toList) :
    v = .agg #[.int .i64 x.1, .int .u8 (x.2.1.toNat : Int), .int .u8 (x.2.2.1.toNat : Int), .int .u8 (x.2.2.2.1.toNat : Int), .int .u8 (x.2.2.2.2.toNat : Int)] := by
  obtain ⟨p, e0, e1, e2, e3⟩ := x
  obtain ⟨c1, c2, h, ⟨rfl, _⟩, ⟨c3, c4, rfl, rfl, ⟨c5, c6, rfl, rfl, ⟨c7, c8, rfl, rfl, rfl⟩⟩⟩⟩ := h
  exact agg_of h (by simp)
theorem frameBack_walk (w : World) (v : Value) (x : FrT) (h : Rep.K w (fun b => b < w.heap.size) x v.cells.toList) (v' : Value) (x' : FrT) (h' : Rep.K w (fun b => b < w.heap.size) x' v'.cells.toList) (u : Value) (y : TurnT) (hu : Rep.K w (fun b => b < w.heap.size) y u.cells.toList) :
    Calls Try.prog 7 #[v, v', u] w fun e w' => e = .returned (.bool true) ∧ Below w.heap.size w w' := by
  obtain ⟨A, n, c, rfl, hr, hs⟩ := frame_of h
  obtain ⟨A', n', c', rfl, hr', hs'⟩ := frame_of h'
  rw [turn_of hu]
  exact frameBack_wk hr hr' hs hs'
end Go.Proofs.Ytolipmnmaikfcaa
