/- Frames: contracts of May. -/
import Derived.Test.YtdjjfpcfclheiaaFrA
set_option linter.unusedSimpArgs false
set_option linter.unusedVariables false
namespace Go.Proofs.Ytdjjfpcfclheiaa.Frm
open Go Go.RowKit Go.Proofs Go.Trc Go.Sx
set_option maxRecDepth 10000

/-- A frame. -/
structure FrV where
  kd : Int
  fr : Int
  to : Int
  ep : Int
  sq : Int
  ak : Int
  bd : List UInt8
  deriving DecidableEq
def cnt (x : Int) : Bool := decide (0 ≤ x ∧ x ≤ 1073741824)
def headOk (kd fr to ep sq ak : Int) : Bool := decide (1 ≤ kd ∧ kd ≤ 4 ∧ 0 ≤ fr ∧ fr ≤ 8 ∧ 0 ≤ to ∧ to ≤ 8 ∧ fr ≠ to) && cnt ep && cnt sq && cnt ak
def mayF (kd fr to ep sq ak : Int) (n : Nat) : Int := if headOk kd fr to ep sq ak then (if 16384 < n then 3 else 0) else 1

theorem within_c (w : World) (x t : Int) : Calls Try.prog 75 #[.int .i64 x, .int .i64 t] w (Ret (.bool (decide (0 ≤ x ∧ x ≤ t))) w) := by
  refine within_sx _ (fun _ => False) w x t ⟨fun h => ret_leaf (Fr.refl _ _) ?_, fun h => ret_leaf (Fr.refl _ _) ?_⟩
  · simp [h]
  · simp; omega
theorem counts_c (w : World) (x : Int) : Calls Try.prog 46 #[.int .i64 x] w (Ret (.bool (cnt x)) w) := by
  refine counts_sx _ (fun _ => False) w x ⟨fun h => ret_leaf (Fr.refl _ _) ?_, fun h => ret_leaf (Fr.refl _ _) ?_⟩
  · simp [cnt, h]
  · simp [cnt]; omega
theorem many_c (w : World) (x : Int) (g : Nat) (t : TypeId) (hg : w.heap[g]? = some (.cells #[.func (.func 75) #[] #[]] t (0, 0))) :
    Calls Try.prog 77 #[.int .i64 x, .pointer (some ⟨g, 0, none⟩)] w (Ret (.bool (!cnt x)) w) := by
  refine many_sx _ (fun _ => False) w x _ ⟨.func (.func 75) #[] #[], ?_, _, _, callv_ok (by kernel_rfl) _ _ w, ?_⟩
  · exact load_cell Try.underlying114 (by kernel_rfl) (by rw [cell_of_row w g _ _ t (0, 0) hg]; rfl)
  · refine (within_c w x _).mono ?_
    rintro e w' ⟨rfl, b⟩
    exact ⟨_, rfl, ok_ret b (Fr.refl _ _), ret_leaf ((Fr.refl _ _).step b) rfl⟩

/-- 'slices.ContainsFunc' of three numbers, with 'any that is not counted'. -/
theorem index_c (w : World) (x y z : Int) (g q : Nat) (t : TypeId) (hg : w.heap[g]? = some (.cells #[.func (.func 75) #[] #[]] t (0, 0)))
    (hq : w.heap[q]? = some (.cells #[.int .i64 x, .int .i64 y, .int .i64 z] 3 (0, 0))) (hr : ∀ v ∈ [x, y, z], -9223372036854775808 ≤ v ∧ v ≤ 9223372036854775807) :
    Calls Try.prog 86 #[.slice (some ⟨q, 0, none⟩) 3 3, .func (.func 77) #[] #[.pointer (some ⟨g, 0, none⟩)]] w
      fun e w' => ∃ i : Int, e = .returned (.int .i64 i) ∧ (0 ≤ i ↔ ¬ (cnt x && cnt y && cnt z) = true) ∧ Below w.heap.size w w' := by
  have hs : Sl w (fun _ => True) (.slice (some ⟨q, 0, none⟩) 3 3) [x, y, z] := by
    refine Own.sl (base := 0) (e := 3) (ok := fun _ => False) (OwnF.laid [.int .i64 x, .int .i64 y, .int .i64 z] 3 rfl (Nat.zero_le _) hq rfl (by decide) (fun u hu => by simp only [List.mem_cons, List.not_mem_nil, or_false] at hu; rcases hu with rfl | rfl | rfl <;> rfl) ?_) _ (fun _ _ => trivial) (fun _ _ => Flat.flat)
    intro j hj
    match j, hj with
    | 0, _ => exact ⟨rfl, hr x (by simp)⟩
    | 1, _ => exact ⟨rfl, hr y (by simp)⟩
    | 2, _ => exact ⟨rfl, hr z (by simp)⟩
  refine indexFunc_sx _ (fun _ => False) w _ 3 3 _ ?_
  refine ⟨fun _ i5 _ => ∃ k : Nat, k ≤ 3 ∧ i5 = k ∧ ∀ v ∈ [x, y, z].take k, cnt v = true, fun _ i5 _ => 3 - i5.toNat, ⟨0, by omega, rfl, by simp⟩, ?_⟩
  rintro _ _ w1 f1 ⟨k, hk, rfl, hall⟩
  have h1 := hs.below (fr_below f1)
  have hl : [x, y, z].length = 3 := rfl
  refine ⟨fun hlt => ?_, fun hge => ?_⟩
  · have hk' : k < [x, y, z].length := by omega
    obtain ⟨b, o, he, hok, cs, hcs, hat⟩ := h1.elem k hk'
    refine ⟨by omega, hlt, b, o, he, [x, y, z][k], ?_, ?_⟩
    · rw [← hcs.1]; exact hat
    refine ⟨_, _, callv_ok (by kernel_rfl) _ _ w1, (many_c w1 _ g t ?_).mono ?_⟩
    · rw [f1.block g (heap_lt hg) (fun h => h)]; exact hg
    rintro e w2 ⟨rfl, b2⟩
    refine ⟨_, rfl, ok_ret b2 f1, fun hb => ⟨_, rfl, ?_, fr_below (f1.step b2)⟩, fun hb => ?_⟩
    · have hin : [x, y, z][k] ∈ [x, y, z] := List.getElem_mem _
      simp only [Bool.not_eq_true'] at hb
      refine ⟨fun _ hc => ?_, fun _ => by omega⟩
      simp only [Bool.and_eq_true] at hc
      simp only [List.mem_cons, List.not_mem_nil, or_false] at hin
      rcases hin with h | h | h <;> rw [h] at hb <;> simp_all
    · simp only [Bool.not_eq_false'] at hb
      rw [wrap_in (by omega)]
      refine ⟨⟨k + 1, by omega, by omega, ?_⟩, by dsimp only; omega⟩
      rw [List.take_succ_eq_append_getElem hk']
      intro v hv
      rcases List.mem_append.1 hv with hv | hv
      · exact hall v hv
      · simp only [List.mem_cons, List.not_mem_nil, or_false] at hv; rw [hv]; exact hb
  · obtain rfl : k = 3 := by omega
    refine ⟨_, rfl, ⟨fun h => absurd h (by decide), fun h => absurd ?_ h⟩, fr_below f1⟩
    have := hall
    simp only [List.take_succ_cons, List.take_zero, List.mem_cons, List.not_mem_nil, or_false, forall_eq_or_imp, forall_eq] at this
    simp [this]

theorem contains_c (w : World) (x y z : Int) (g q : Nat) (t : TypeId) (hg : w.heap[g]? = some (.cells #[.func (.func 75) #[] #[]] t (0, 0)))
    (hq : w.heap[q]? = some (.cells #[.int .i64 x, .int .i64 y, .int .i64 z] 3 (0, 0))) (hr : ∀ v ∈ [x, y, z], -9223372036854775808 ≤ v ∧ v ≤ 9223372036854775807) :
    Calls Try.prog 76 #[.slice (some ⟨q, 0, none⟩) 3 3, .func (.func 77) #[] #[.pointer (some ⟨g, 0, none⟩)]] w (Ret (.bool (!(cnt x && cnt y && cnt z))) w) := by
  refine containsFunc_sx _ (fun _ => False) w _ 3 3 _ ?_
  refine (index_c w x y z g q t hg hq hr).mono ?_
  rintro e w' ⟨i, rfl, hi, b⟩
  refine ⟨i, rfl, ok_ret b (Fr.refl _ _), ret_leaf ((Fr.refl _ _).step b) ?_⟩
  congr 1
  cases hc : (cnt x && cnt y && cnt z) with
  | true => simp only [hc, not_true, iff_false] at hi; simp only [hi, decide_false, Bool.not_true]
  | false => simp only [hc, Bool.false_eq_true, not_false_eq_true, iff_true] at hi; simp only [hi, decide_true, Bool.not_false]

theorem fmay_c (w : World) (kd fr to ep sq ak : Int) (A : Option Addr) (n c : Nat) (hr : ∀ v ∈ [ep, sq, ak], -9223372036854775808 ≤ v ∧ v ≤ 9223372036854775807) :
    Calls Try.prog 63 #[.agg #[.int .i64 kd, .int .i64 fr, .int .i64 to, .int .i64 ep, .int .i64 sq, .int .i64 ak, .slice A n c]] w (Ret (.int .i64 (mayF kd fr to ep sq ak n)) w) := by
  refine may_sx _ (fun _ => False) w kd fr to ep sq ak A n c ?_
  intro g9 _ g10 _ g11 _ w1 f1 _
  refine ⟨_, _, callv_ok (by kernel_rfl) _ _ w1, (within_c w1 fr 8).mono ?_⟩
  rintro e w2 ⟨rfl, b2⟩
  have f2 := f1.step b2
  have leaf : ∀ {w' : World} {v : Int}, Fr (fun _ => False) w w' → mayF kd fr to ep sq ak n = v → Ret (.int .i64 (mayF kd fr to ep sq ak n)) w (.returned (.int .i64 v)) w' := fun f h => ret_leaf f (by rw [h])
  refine ⟨_, rfl, ok_ret b2 f1, fun hb => ?_, fun hb => ?_⟩
  · refine ⟨_, _, callv_ok (by kernel_rfl) _ _ w2, (within_c w2 to 8).mono ?_⟩
    rintro e w3 ⟨rfl, b3⟩
    have f3 := f2.step b3
    refine ⟨_, rfl, ok_ret b3 f2, fun hb2 => ?_, fun hb2 => ?_⟩
    · simp only [decide_eq_true_eq] at hb hb2
      refine ⟨fun h => leaf f3 ?_, fun h1 => ⟨fun h => leaf f3 ?_, fun h2 => ⟨fun h => leaf f3 ?_, fun h3 => ?_⟩⟩⟩
      · have : headOk kd fr to ep sq ak = false := by unfold headOk; rw [decide_eq_false (by omega)]; rfl
        simp [mayF, this]
      · have : headOk kd fr to ep sq ak = false := by unfold headOk; rw [decide_eq_false (by omega)]; rfl
        simp [mayF, this]
      · have : headOk kd fr to ep sq ak = false := by unfold headOk; rw [decide_eq_false (by omega)]; rfl
        simp [mayF, this]
      · intro t10
        refine ⟨_, rfl, fun t11 => ?_⟩
        refine (contains_c w3 ep sq ak g10 g11 _ t10 t11 hr).mono ?_
        rintro e w4 ⟨rfl, b4⟩
        have f4 := f3.step b4
        have hh : headOk kd fr to ep sq ak = (cnt ep && cnt sq && cnt ak) := by unfold headOk; rw [decide_eq_true (by omega)]; simp
        refine ⟨_, rfl, ok_ret b4 f3, fun hb3 => leaf f4 ?_, fun hb3 => ?_⟩
        · simp only [Bool.not_eq_true'] at hb3
          simp [mayF, hh, hb3]
        · simp only [Bool.not_eq_false'] at hb3
          refine ⟨fun h => leaf f4 ?_, fun h => leaf f4 ?_⟩
          · unfold mayF; rw [hh, hb3, if_pos rfl, if_pos (by omega)]
          · unfold mayF; rw [hh, hb3, if_pos rfl, if_neg (by omega)]
    · simp only [decide_eq_false_iff_not] at hb2
      have : headOk kd fr to ep sq ak = false := by unfold headOk; rw [decide_eq_false (by omega)]; rfl
      have hm : mayF kd fr to ep sq ak n = 1 := by simp [mayF, this]
      exact ⟨fun h => leaf f3 hm, fun h1 => ⟨fun h => leaf f3 hm, fun h2 => leaf f3 hm⟩⟩
  · simp only [decide_eq_false_iff_not] at hb
    have : headOk kd fr to ep sq ak = false := by unfold headOk; rw [decide_eq_false (by omega)]; rfl
    have hm : mayF kd fr to ep sq ak n = 1 := by simp [mayF, this]
    exact ⟨fun h => leaf f2 hm, fun h1 => ⟨fun h => leaf f2 hm, fun h2 => leaf f2 hm⟩⟩

theorem refMay_c (w : World) (kd fr to ep sq ak : Int) (A : Option Addr) (n c : Nat) :
    Calls Try.prog 28 #[.agg #[.int .i64 kd, .int .i64 fr, .int .i64 to, .int .i64 ep, .int .i64 sq, .int .i64 ak, .slice A n c]] w (Ret (.int .i64 (mayF kd fr to ep sq ak n)) w) := by
  refine refMay_sx _ (fun _ => False) w kd fr to ep sq ak A n c ?_
  have leaf : ∀ {w' : World} {v : Int}, Fr (fun _ => False) w w' → mayF kd fr to ep sq ak n = v → Ret (.int .i64 (mayF kd fr to ep sq ak n)) w (.returned (.int .i64 v)) w' := fun f h => ret_leaf f (by rw [h])
  intro g9 _
  have no : ¬ (1 ≤ kd ∧ kd ≤ 4 ∧ 0 ≤ fr ∧ fr ≤ 8 ∧ 0 ≤ to ∧ to ≤ 8 ∧ fr ≠ to) → mayF kd fr to ep sq ak n = 1 := fun h => by
    have : headOk kd fr to ep sq ak = false := by unfold headOk; rw [decide_eq_false h]; rfl
    simp [mayF, this]
  refine ⟨fun h w1 f1 _ => leaf f1 (no (by omega)), fun h1 => ⟨fun h w1 f1 _ => leaf f1 (no (by omega)), fun h2 => ⟨fun h w1 f1 _ => leaf f1 (no (by omega)), fun h3 => ⟨fun h w1 f1 _ => leaf f1 (no (by omega)), fun h4 =>
    ⟨fun h w1 f1 _ => leaf f1 (no (by omega)), fun h5 => ⟨fun h w1 f1 _ => leaf f1 (no (by omega)), fun h6 => ⟨fun h w1 f1 _ => leaf f1 (no (by omega)), fun h7 w1 f1 _ => ?_⟩⟩⟩⟩⟩⟩⟩
  have hh : headOk kd fr to ep sq ak = (cnt ep && cnt sq && cnt ak) := by unfold headOk; rw [decide_eq_true (by omega)]; simp
  refine (counts_c w1 ep).mono ?_
  rintro e w2 ⟨rfl, b2⟩
  have f2 := f1.step b2
  refine ⟨_, rfl, ok_ret b2 f1, fun hb => leaf f2 (by simp [mayF, hh, hb]), fun hb => ?_⟩
  refine (counts_c w2 sq).mono ?_
  rintro e w3 ⟨rfl, b3⟩
  have f3 := f2.step b3
  refine ⟨_, rfl, ok_ret b3 f2, fun hb2 => leaf f3 (by simp [mayF, hh, hb2]), fun hb2 => ?_⟩
  refine (counts_c w3 ak).mono ?_
  rintro e w4 ⟨rfl, b4⟩
  have f4 := f3.step b4
  refine ⟨_, rfl, ok_ret b4 f3, fun hb3 => leaf f4 (by simp [mayF, hh, hb3]), fun hb3 => ⟨fun h => leaf f4 ?_, fun h => leaf f4 ?_⟩⟩
  · unfold mayF; rw [hh, hb, hb2, hb3, if_pos (by rfl), if_pos (by omega)]
  · unfold mayF; rw [hh, hb, hb2, hb3, if_pos (by rfl), if_neg (by omega)]
end Go.Proofs.Ytdjjfpcfclheiaa.Frm
