/- Script: Take of both, Same. -/
import Derived.Test.YtfjenamomipmdaaDoorSpB
import Derived.Test.YtfjenamomipmdaaDoorSpX
import Derived.Test.YtfjenamomipmdaaDoorPkN
import Derived.Test.YtfjenamomipmdaaDoorPkE
import Derived.Test.YtfjenamomipmdaaDoorPkS
set_option linter.unusedSimpArgs false
set_option linter.unusedVariables false
namespace Go.Proofs.YtfjenamomipmdaaDoor
open Go Go.RowKit Go.Proofs Go.Trc Go.Sx
theorem own_past {α : Type} [Rep α] [Flat α] {w w' : World} {base : Nat} {e : TypeId} {v : Value} {xs : List α} {G : List Nat} (o : OwnF w base e v xs) (f : Fr (fun b => b ∈ G) w w') (hG : ∀ g ∈ G, g < base) : OwnF w' base e v xs := by
  obtain ⟨cs, ⟨h1, h2⟩, h3, h4⟩ := o
  refine ⟨cs, ⟨h1, ?_⟩, h3, fun j hj => Flat.flat (h4 j hj)⟩
  rcases h2 with h2 | ⟨g, cap, cur, hv, hb, hg, r⟩
  · exact .inl h2
  · exact .inr ⟨g, cap, cur, hv, hb, (f.block g (heap_lt hg) fun hm => by have := hG g hm; omega).trans hg, r⟩
def zeroS : StepV := (0, 0, 0, 0, [])
def nthN (bs : List UInt8) (k : Nat) : Int := IntKind.i64.wrap (bigV ((bs.drop k).take 8))
def takeS (bs : List UInt8) : StepV × Int :=
  if bs.length < 32 then (zeroS, 240)
  else if bs.length = 32 then ((nthN bs 0, nthN bs 8, nthN bs 16, nthN bs 24, []), 0)
  else if (wholeV (bs.drop 32)).2 = 0 then ((nthN bs 0, nthN bs 8, nthN bs 16, nthN bs 24, (wholeV (bs.drop 32)).1), 0) else (zeroS, 240)
def TakeSE (w : World) (x : StepV × Int) (e : Ending) (w' : World) : Prop :=
  ∃ A n c, e = .returned (.tuple #[.agg #[.int .i64 x.1.1, .int .i64 x.1.2.1, .int .i64 x.1.2.2.1, .int .i64 x.1.2.2.2.1, .slice A n c], .int .i64 x.2]) ∧ OwnF w' w.heap.size 39 (.slice A n c) x.1.2.2.2.2 ∧ Below w.heap.size w w'
theorem takeS_short {bs : List UInt8} (h : bs.length < 32) : takeS bs = (zeroS, 240) := by rw [takeS, if_pos h]
theorem takeS_even {bs : List UInt8} (h : bs.length = 32) : takeS bs = ((nthN bs 0, nthN bs 8, nthN bs 16, nthN bs 24, []), 0) := by rw [takeS, if_neg (by omega), if_pos h]
theorem takeS_whole {bs : List UInt8} (h : 32 < bs.length) (hw : (wholeV (bs.drop 32)).2 = 0) : takeS bs = ((nthN bs 0, nthN bs 8, nthN bs 16, nthN bs 24, (wholeV (bs.drop 32)).1), 0) := by rw [takeS, if_neg (by omega), if_neg (by omega), if_pos hw]
theorem takeS_none {bs : List UInt8} (h : 32 < bs.length) (hw : ¬ (wholeV (bs.drop 32)).2 = 0) : takeS bs = (zeroS, 240) := by rw [takeS, if_neg (by omega), if_neg (by omega), if_neg hw]
theorem numV_at {bs : List UInt8} {k : Nat} (h : k + 8 ≤ bs.length) : numV (bs.drop k) = (nthN bs k, bs.drop (k + 8), true) := by
  rw [numV, if_neg (by rw [List.length_drop]; omega), List.drop_drop]; rfl
theorem own_nil0 (w : World) (base : Nat) (e : TypeId) : OwnF w base e (.slice none 0 0) ([] : List OpV) := ⟨[], ⟨by simp, .inl ⟨rfl, rfl⟩⟩, by simp, fun j hj => by simp at hj⟩
set_option maxHeartbeats 1000000 in
theorem scTake_c {w : World} {ok : Nat → Prop} {A : Option Addr} {n c : Nat} {xs : List UInt8} (h : Sl w ok (.slice A n c) xs) (hl : n ≤ 1000000) :
    Calls Tryd.prog 25 #[.slice A n c] w (TakeSE w (takeS xs)) := by
  have hn := h.len
  refine scTake_sx _ (fun _ => False) w A n c ?_
  intro g3 hg3
  refine ⟨fun hlt w1 f1 b1 lo3 t3 => ?_, fun hge g4 hg4 g5 hg5 w1 f1 b1 lo5 t5 lo4 t4 lo3 t3 => ?_⟩
  · rw [takeS_short (by omega)]
    exact ⟨none, 0, 0, rfl, own_nil0 _ _ _, b1⟩
  have ng : ∀ g ∈ [g4], ¬ g < w.heap.size := by simp only [List.mem_singleton]; rintro _ rfl; omega
  have h1 : Sl w1 (fun b => b < w.heap.size) (.slice A n c) xs := h.here.below b1
  refine (takeNum_c h1).mono ?_
  rw [show numV xs = numV (xs.drop 0) from rfl, numV_at (k := 0) (by omega)]
  rintro e w2 ⟨A7, n8, n9, rfl, s2, b2⟩
  refine ⟨_, A7, n8, n9, _, rfl, ok_ret b2 f1, fun w3 f3 q3 => ?_⟩
  refine (takeNum_c (Sl.past (s2.below b2) q3 ng)).mono ?_
  rw [numV_at (k := 0 + 8) (by omega)]
  rintro e w4 ⟨A12, n13, n14, rfl, s4, b4⟩
  refine ⟨_, A12, n13, n14, _, rfl, ok_ret b4 f3, fun w5 f5 q5 => ?_⟩
  refine (takeNum_c (Sl.past (s4.below b4) q5 ng)).mono ?_
  rw [numV_at (k := 0 + 8 + 8) (by omega)]
  rintro e w6 ⟨A17, n18, n19, rfl, s6, b6⟩
  refine ⟨_, A17, n18, n19, _, rfl, ok_ret b6 f5, fun w7 f7 q7 => ?_⟩
  refine (takeNum_c (Sl.past (s6.below b6) q7 ng)).mono ?_
  rw [numV_at (k := 0 + 8 + 8 + 8) (by omega)]
  rintro e w8 ⟨A22, n23, n24, rfl, s8, b8⟩
  have l8 := s8.len
  rw [List.length_drop] at l8
  refine ⟨_, A22, n23, n24, _, rfl, ok_ret b8 f7, fun h0 w9 f9 q9 => ?_, fun h0 w9 f9 q9 => ?_⟩
  · rw [takeS_even (by omega)]
    exact ⟨none, 0, 0, rfl, own_nil0 _ _ _, fr_below f9⟩
  · have g4lt : g4 < w9.heap.size := Nat.lt_of_lt_of_le (heap_lt t4) (Nat.le_trans b2.size (Nat.le_trans q3.size (Nat.le_trans b4.size (Nat.le_trans q5.size (Nat.le_trans b6.size (Nat.le_trans q7.size (Nat.le_trans b8.size q9.size)))))))
    have g3lt : g3 < w9.heap.size := Nat.lt_of_lt_of_le (heap_lt t3) (Nat.le_trans b2.size (Nat.le_trans q3.size (Nat.le_trans b4.size (Nat.le_trans q5.size (Nat.le_trans b6.size (Nat.le_trans q7.size (Nat.le_trans b8.size q9.size)))))))
    refine (opcodeWhole_c (Sl.past (s8.below b8) q9 ng) (by omega)).mono ?_
    rintro e w10 ⟨A26, n27, n28, rfl, o10, b10⟩
    refine ⟨A26, n27, n28, _, rfl, ok_ret b10 f9, fun g30 hg30 => ⟨fun hne w11 f11 q11 lo30 t30 => ?_, fun he w11 f11 q11 lo30 t30 => ?_⟩⟩
    · rw [takeS_none (by omega) hne]
      exact ⟨none, 0, 0, rfl, own_nil0 _ _ _, fr_below f11⟩
    · rw [takeS_whole (by omega) he]
      exact ⟨A26, n27, n28, rfl, (own_past o10 q11 (by simp only [List.mem_cons, List.not_mem_nil, or_false]; rintro _ (rfl | rfl) <;> assumption)).base' fun k hk => by have := (Own.lt o10 k hk).1; have := f9.size; omega, fr_below f11⟩
set_option maxHeartbeats 1000000 in
theorem refScTake_c {w : World} {ok : Nat → Prop} {A : Option Addr} {n c : Nat} {xs : List UInt8} (h : Sl w ok (.slice A n c) xs) (hl : n ≤ 1000000) :
    Calls Tryd.prog 26 #[.slice A n c] w (TakeSE w (takeS xs)) := by
  have hn := h.len
  refine refScTake_sx _ (fun _ => False) w A n c ?_
  intro g3 hg3
  refine ⟨fun hlt w1 f1 b1 lo3 t3 => ?_, fun hge g4 hg4 w1 f1 b1 lo4 t4 lo3 t3 => ?_⟩
  · rw [takeS_short (by omega)]
    exact ⟨none, 0, 0, rfl, own_nil0 _ _ _, b1⟩
  have hh : ∀ w', Fr (fun _ => False) w w' → Sl w' ok (.slice A n c) xs := fun w' f => h.below (fr_below f)
  refine (ref08TakeNum_c (hh w1 f1)).mono ?_
  rw [show numV xs = numV (xs.drop 0) from rfl, numV_at (k := 0) (by omega)]
  rintro e w2 ⟨A7, n8, n9, rfl, s2, b2⟩
  refine ⟨_, A7, n8, n9, _, rfl, ok_ret b2 f1, fun w3 f3 q3 => ?_⟩
  obtain ⟨A10, hr10, s10⟩ := lo_b (hh w3 f3) (k := 8) (by omega)
  refine ⟨A10, _, _, hr10 _, ?_⟩
  refine (ref08TakeNum_c s10).mono ?_
  rw [numV_at (k := 8) (by omega)]
  rintro e w4 ⟨A12, n13, n14, rfl, s4, b4⟩
  refine ⟨_, A12, n13, n14, _, rfl, ok_ret b4 f3, fun w5 f5 q5 => ?_⟩
  obtain ⟨A18, hr18, s18⟩ := lo_b (hh w5 f5) (k := 16) (by omega)
  refine ⟨A18, _, _, hr18 _, ?_⟩
  refine (ref08TakeNum_c s18).mono ?_
  rw [numV_at (k := 16) (by omega)]
  rintro e w6 ⟨A17, n18, n19, rfl, s6, b6⟩
  refine ⟨_, A17, n18, n19, _, rfl, ok_ret b6 f5, fun w7 f7 q7 => ?_⟩
  obtain ⟨A26, hr26, s26⟩ := lo_b (hh w7 f7) (k := 24) (by omega)
  refine ⟨A26, _, _, hr26 _, ?_⟩
  refine (ref08TakeNum_c s26).mono ?_
  rw [numV_at (k := 24) (by omega)]
  rintro e w8 ⟨A22, n23, n24, rfl, s8, b8⟩
  refine ⟨_, A22, n23, n24, _, rfl, ok_ret b8 f7, fun h0 w9 f9 q9 => ?_, fun h0 w9 f9 q9 => ?_⟩
  · rw [takeS_even (by omega)]
    exact ⟨none, 0, 0, rfl, own_nil0 _ _ _, fr_below f9⟩
  · have g4lt : g4 < w9.heap.size := Nat.lt_of_lt_of_le (heap_lt t4) (Nat.le_trans b2.size (Nat.le_trans q3.size (Nat.le_trans b4.size (Nat.le_trans q5.size (Nat.le_trans b6.size (Nat.le_trans q7.size (Nat.le_trans b8.size q9.size)))))))
    have g3lt : g3 < w9.heap.size := Nat.lt_of_lt_of_le (heap_lt t3) (Nat.le_trans b2.size (Nat.le_trans q3.size (Nat.le_trans b4.size (Nat.le_trans q5.size (Nat.le_trans b6.size (Nat.le_trans q7.size (Nat.le_trans b8.size q9.size)))))))
    obtain ⟨A34, hr34, s34⟩ := lo_b (hh w9 f9) (k := 32) (by omega)
    refine ⟨A34, _, _, hr34 _, ?_⟩
    refine (ref10Whole_c s34 (by omega)).mono ?_
    rintro e w10 ⟨A26, n27, n28, rfl, o10, b10⟩
    refine ⟨A26, n27, n28, _, rfl, ok_ret b10 f9, fun g30 hg30 => ⟨fun hne w11 f11 q11 lo30 t30 => ?_, fun he w11 f11 q11 lo30 t30 => ?_⟩⟩
    · rw [takeS_none (by omega) hne]
      exact ⟨none, 0, 0, rfl, own_nil0 _ _ _, fr_below f11⟩
    · rw [takeS_whole (by omega) he]
      exact ⟨A26, n27, n28, rfl, (own_past o10 q11 (by simp only [List.mem_cons, List.not_mem_nil, or_false]; rintro _ (rfl | rfl) <;> assumption)).base' fun k hk => by have := (Own.lt o10 k hk).1; have := f9.size; omega, fr_below f11⟩
end Go.Proofs.YtfjenamomipmdaaDoor


/- Script: Same. -/
set_option linter.unusedSimpArgs false
set_option linter.unusedVariables false
namespace Go.Proofs.YtfjenamomipmdaaDoor
open Go Go.RowKit Go.Proofs Go.Trc Go.Sx
theorem cells_part {w : World} {b o j : Nat} {cs : List Value} {v : Value} (h : CellsAt w b (o + 0) cs) (hj : nth cs j = some v) : CellsAt w b (o + j) [v] := fun i u hu => by
  cases i with
  | zero =>
    injection hu with hu
    subst hu
    exact h j v hj
  | succ i => cases i <;> cases hu
theorem step_k {w : World} {ok : Nat → Prop} {b o n c : Nat} {ls : List StepV} (h : Sl w ok (.slice (some ⟨b, o, none⟩) n c) ls) (k : Nat) (hk : k < ls.length) :
    b < w.heap.size ∧ CellsAt w b (o + k * 5 + 0) [.int .i64 ls[k].1] ∧ CellsAt w b (o + k * 5 + 1) [.int .i64 ls[k].2.1] ∧ CellsAt w b (o + k * 5 + 2) [.int .i64 ls[k].2.2.1] ∧ CellsAt w b (o + k * 5 + 3) [.int .i64 ls[k].2.2.2.1] ∧
      ∃ A1 n1 c1, CellsAt w b (o + k * 5 + 4) [.slice A1 n1 c1] ∧ Sl w ok (.slice A1 n1 c1) ls[k].2.2.2.2 := by
  obtain ⟨b', o', A1, n1, c1, hA, hc, hs⟩ := step_at h k hk
  injection hA with hA; injection hA with e1 e2; subst e1; subst e2
  refine ⟨?_, cells_part hc rfl, cells_part hc rfl, cells_part hc rfl, cells_part hc rfl, A1, n1, c1, cells_part hc rfl, hs⟩
  have := hc 0 _ rfl
  exact World.block_lt_of_cell? w _ this
theorem step_ne {xs ys : List StepV} {k : Nat} (h1 : k < xs.length) (h2 : k < ys.length) (hne : ¬ xs[k] = ys[k]) : decide (xs = ys) = false := by
  rw [decide_eq_false_iff_not]
  rintro rfl
  exact hne rfl
set_option maxHeartbeats 1000000 in
theorem same23_c {w : World} {ok ok' : Nat → Prop} {A A' : Option Addr} {n c n' c' : Nat} {xs ys : List StepV} (h : Sl w ok (.slice A n c) xs) (h' : Sl w ok' (.slice A' n' c') ys) :
    Calls Tryd.prog 27 #[.slice A n c, .slice A' n' c'] w (Ret (.bool (decide (xs = ys))) w) := by
  have hn := h.len
  have hn' := h'.len
  have hle := h.len_eq
  refine same23_sx _ (fun _ => False) w A n c A' n' c' ⟨fun hne => ret_leaf (Fr.refl _ _) (by rw [decide_eq_false (fun e => hne (by rw [hn, hn', e]))]), fun heq => ?_⟩
  refine ⟨fun _ i w' => ∃ k : Nat, i = (k : Int) ∧ k ≤ xs.length ∧ xs.take k = ys.take k, fun _ i _ => (n - i : Int).toNat, ⟨0, rfl, Nat.zero_le _, rfl⟩, ?_⟩
  rintro b6 _ w1 f1 ⟨k, rfl, hk, ek⟩
  refine ⟨fun hlt => ?_, fun hge => ret_leaf f1 (by rw [List.take_of_length_le (by omega), List.take_of_length_le (by omega)] at ek; rw [decide_eq_true ek])⟩
  have hx : k < xs.length := by omega
  have hy : k < ys.length := by omega
  have H1 := h.below (fr_below f1)
  have K1 := h'.below (fr_below f1)
  obtain ⟨p, o, -, -, -, rfl, -, -⟩ := step_at H1 k hx
  obtain ⟨p', o', -, -, -, rfl, -, -⟩ := step_at K1 k hy
  refine ⟨by omega, hlt, p, o, rfl, fun w2 f2 b2 => ?_⟩
  obtain ⟨q1, -⟩ := step_k H1 k hx
  obtain ⟨q1', -⟩ := step_k K1 k hy
  have H2 := H1.below b2
  have K2 := K1.below b2
  obtain ⟨-, -, -, -, -, A1, n1, c1, hc, hs⟩ := step_k H2 k hx
  obtain ⟨-, -, -, -, -, A2, n2, c2, hc', hs'⟩ := step_k K2 k hy
  refine ⟨A1, n1, c1, hc, ⟨q1, by simp⟩, by omega, by omega, p', o', rfl, A2, n2, c2, hc', ⟨q1', by simp⟩, ?_⟩
  refine (ref_same_c hs hs').mono ?_
  rintro e w3 ⟨rfl, b3⟩
  refine ⟨_, rfl, ok_ret b3 f2, by omega, hlt, p, o, rfl, fun w4 f4 b4 => ?_⟩
  have H3 := H2.below b3
  have K3 := K2.below b3
  obtain ⟨q3, -⟩ := step_k H3 k hx
  obtain ⟨q3', -⟩ := step_k K3 k hy
  obtain ⟨-, d0, d1, d2, d3, -⟩ := step_k (H3.below b4) k hx
  obtain ⟨-, d0', d1', d2', d3', -⟩ := step_k (K3.below b4) k hy
  refine ⟨_, d0, ⟨q3, by simp⟩, by omega, by omega, p', o', rfl, _, d0', ⟨q3', by simp⟩, fun hne => ret_leaf f4 (by rw [step_ne hx hy fun e => hne (by rw [e])]), fun e0 => ?_⟩
  refine ⟨by omega, hlt, p, o, rfl, _, d1, ⟨q3, by simp⟩, by omega, by omega, p', o', rfl, _, d1', ⟨q3', by simp⟩, fun hne => ret_leaf f4 (by rw [step_ne hx hy fun e => hne (by rw [e])]), fun e1 => ?_⟩
  refine ⟨by omega, hlt, p, o, rfl, _, d2, ⟨q3, by simp⟩, by omega, by omega, p', o', rfl, _, d2', ⟨q3', by simp⟩, fun hne => ret_leaf f4 (by rw [step_ne hx hy fun e => hne (by rw [e])]), fun e2 => ?_⟩
  refine ⟨by omega, hlt, p, o, rfl, _, d3, ⟨q3, by simp⟩, by omega, by omega, p', o', rfl, _, d3', ⟨q3', by simp⟩, fun hne => ret_leaf f4 (by rw [step_ne hx hy fun e => hne (by rw [e])]), fun e3 => ?_⟩
  refine ⟨fun hb => ret_leaf f4 (by rw [step_ne hx hy fun e => of_decide_eq_false hb (by rw [e])]), fun hb => ⟨⟨k + 1, by rw [wrap_in (by omega)]; rfl, hx, ?_⟩, by dsimp only; rw [wrap_in (by omega)]; omega⟩⟩
  have e4 := of_decide_eq_true hb
  have e : xs[k] = ys[k] := Prod.ext e0 (Prod.ext e1 (Prod.ext e2 (Prod.ext e3 e4)))
  rw [List.take_add_one, List.take_add_one, ek, List.getElem?_eq_getElem hx, List.getElem?_eq_getElem hy, e]
end Go.Proofs.YtfjenamomipmdaaDoor


/- Script: few. -/
set_option linter.unusedSimpArgs false
set_option linter.unusedVariables false
namespace Go.Proofs.YtfjenamomipmdaaDoor
open Go Go.RowKit Go.Proofs Go.Trc Go.Sx
def cutS (x : StepV) : StepV := (x.1, x.2.1, x.2.2.1, x.2.2.2.1, (x.2.2.2.2.take 8).map cutT)
def fewS (l : List StepV) : List StepV := (l.take 30).map cutS
def RetT (w : World) (l : List StepV) (e : Ending) (w' : World) : Prop := ∃ A n c, e = .returned (.slice A n c) ∧ RowsT w.heap.size w' (.slice A n c) l ∧ Below w.heap.size w w'
theorem cuts_take (l : List StepV) (k : Nat) (h : k < l.length) : (l.take (k + 1)).map cutS = (l.take k).map cutS ++ [cutS l[k]] := by rw [List.take_add_one, List.getElem?_eq_getElem h, List.map_append]; rfl
theorem cutt_take (l : List OpV) (k : Nat) (h : k < l.length) : (l.take (k + 1)).map cutT = (l.take k).map cutT ++ [cutT l[k]] := by rw [List.take_add_one, List.getElem?_eq_getElem h, List.map_append]; rfl
set_option maxHeartbeats 2000000 in
theorem few23_c {w : World} {ok : Nat → Prop} {A : Option Addr} {n c : Nat} {ls : List StepV} (h : Sl w ok (.slice A n c) ls) :
    Calls Tryd.prog 24 #[.slice A n c] w (RetT w (fewS ls)) := by
  have hn := h.len
  have hle := h.len_eq
  refine few23_sx _ (fun b => some b = none) w A n c ?_
  intro g3 hg3
  refine ⟨fun A n c i w' => ∃ k : Nat, i = (k : Int) ∧ k ≤ ls.length ∧ k ≤ 30 ∧ ∃ hs : List HdS, Rw none w w.heap.size 54 w' (.slice A n c) hs [g3] ∧ Al (IsS w') hs ((ls.take k).map cutS), fun _ _ _ i _ => (30 - i).toNat, ?_, ?_⟩
  · intro w1 f1 b1 lo3 t3
    exact ⟨0, rfl, Nat.zero_le _, by omega, [], Rw.first (fr_none f1) hg3 t3 (by simp; exact heap_lt t3), Al.nil⟩
  rintro A4 n5 n6 _ w2 f2 ⟨k, rfl, hk, hk30, hs, r, al⟩
  have fin : fewS ls = (ls.take k).map cutS → RetT w (fewS ls) (.returned (.slice A4 n5 n6)) w2 := fun e => by rw [e]; exact ⟨_, _, _, rfl, ⟨hs, r.own, al⟩, fr_below (fr_none f2)⟩
  refine ⟨fun hlt => ⟨fun h30 => ?_, fun h30 => fin (by unfold fewS; rw [show k = 30 by omega])⟩, fun hge => fin (by unfold fewS; rw [List.take_of_length_le (by omega), List.take_of_length_le (by omega)])⟩
  have hx : k < ls.length := by omega
  have h2 := h.below (fr_below (fr_none f2))
  obtain ⟨b, o, A1, n1, c1, hA, hc, hsl⟩ := step_at h2 k hx
  have hrg := step_rng h2 k hx
  have hn1 := hsl.len
  have hg3lt := r.names g3 (by simp)
  refine ⟨by omega, hlt, b, o, hA, _, _, _, _, A1, n1, c1, hc, ?_⟩
  intro g17 hg17 g18 hg18
  refine ⟨fun j A n c w' => ∃ m : Nat, j = (m : Int) ∧ m ≤ ls[k].2.2.2.2.length ∧ m ≤ 8 ∧ w2.heap.size ≤ g17 ∧ w2.heap.size ≤ g18 ∧ (∃ C, w'.heap[g17]? = some (.cells C 54 (0, 0))) ∧ Rw none w2 w2.heap.size 39 w' (.slice A n c) ((ls[k].2.2.2.2.take m).map cutT) [g18, g17, g3], fun j _ _ _ _ => (8 - j).toNat, ?_, ?_⟩
  · intro w3 f3 b3 lo18 t18 lo17 t17
    exact ⟨0, rfl, Nat.zero_le _, by omega, lo17, lo18, ⟨_, t17⟩, Rw.nil ((Fr.refl _ _).step b3) (by
      simp only [List.mem_cons, List.not_mem_nil, or_false]
      rintro _ (rfl | rfl | rfl)
      · exact heap_lt t18
      · exact heap_lt t17
      · exact Nat.lt_of_lt_of_le hg3lt b3.size)⟩
  rintro _ A20 n21 n22 w4 f4 ⟨m, rfl, hm, hm8, lo17, lo18, ⟨C17, t17⟩, q⟩ t18
  have n78 : ¬ g17 = g18 := by
    rintro rfl
    rw [t17] at t18
    injection t18 with t18
    injection t18 with _ t18
    exact absurd t18 (by decide)
  refine ⟨fun hlt2 => ⟨fun h8 => ?_, fun h8 => ?_⟩, fun hge2 => ?_⟩
  · have hm' : m < ls[k].2.2.2.2.length := by omega
    have hs4 := hsl.below (fr_below (fr_none q.fr))
    have hwf := Sl.wf hs4 _ (List.getElem_mem hm')
    obtain ⟨b', o', hA', _, _, _, hc'⟩ := Sl.op hs4 m hm'
    have hml : ((ls[k].2.2.2.2.take m).map cutT).length = m := by rw [List.length_map, List.length_take]; omega
    refine ⟨by omega, hlt2, b', o', hA', _, _, _, _, _, _, _, _, _, _, _, _, _, _, _, _, _, _, _, _, hc', ?_⟩
    intro g45 hg45
    refine ⟨fun hbig w5 f5 b5 lo45 t45 => ?_, fun hsm g46 hg46 w5 f5 b5 lo46 t46 lo45 t45 => ?_⟩
    · refine ⟨_, run_cut_s ls[k].2.2.2.2[m].tx 100 (by omega), ?_⟩
      intro g47 hg47 w6 f6 q6 lo47 t47
      have l245 : w2.heap.size ≤ g45 := Nat.le_trans q.fr.size lo45
      have r3 := q.on b5 [g45] (by simp only [List.mem_singleton]; rintro _ rfl; exact ⟨lo45, heap_lt t45⟩)
      have r3' := Rw.past r3 q6 l245 (fun hh => by have := (Own.lt q.own g45 hh).2; omega)
      have r4 : Rw none w2 w2.heap.size 39 w6 (.slice A20 n21 n22) ((ls[k].2.2.2.2.take m).map cutT) [g47, g45, g18, g17, g3] := ⟨r3'.own, r3'.fr, fun j hj => ⟨(r3'.blk j hj).1, fun hm => by
        rcases List.mem_cons.1 hm with rfl | hm
        · have := tail_lt r3.own hj; omega
        · exact (r3'.blk j hj).2 hm⟩, fun g hg => by
        rcases List.mem_cons.1 hg with rfl | hg
        · exact heap_lt t47
        · exact r3'.names g hg, r3'.le⟩
      have ec : cutT ls[k].2.2.2.2[m] = { ls[k].2.2.2.2[m] with tx := ls[k].2.2.2.2[m].tx.extract 0 100 } := by unfold cutT; rw [if_pos (by omega)]
      obtain ⟨w7, A7, n7, c7, hr7, m7, r7⟩ := r4.append 23 23 _ 168 Tryd.underlying23 infoOp rfl (arg_cells [cutT ls[k].2.2.2.2[m]] 1 rfl (by rw [ec]; exact t47) (by decide) (by simp only [List.mem_singleton]; rintro _ rfl; exact cut_wf hwf)) (by rw [hml]; simp; omega) (by rw [hml]; simp; omega)
      have e18 := (m7.2.2 g18 (by simp) (r4.names g18 (by simp))).trans ((q6.block g18 (r3.names g18 (by simp)) (by simp; have := heap_lt t18; omega)).trans ((b5.block g18 (heap_lt t18)).trans t18))
      have e17 := (m7.2.2 g17 (by simp) (r4.names g17 (by simp))).trans ((q6.block g17 (r3.names g17 (by simp)) (by simp; have := heap_lt t17; omega)).trans ((b5.block g17 (heap_lt t17)).trans t17))
      -- one operation more
      refine ⟨w7, A7, n7, c7, hr7, ⟨f2.step (fr_below (fr_none m7.1)), m7.2⟩, fun w8 f8 q8 => ⟨⟨m + 1, by rw [wrap_in (by omega)]; rfl, hm', by omega, lo17, lo18, ⟨C17, (q8.block g17 (heap_lt e17) (by simpa using n78)).trans e17⟩, ?_⟩, by dsimp only; rw [wrap_in (by omega)]; omega⟩⟩
      rw [cutt_take _ m hm']
      exact (Rw.past r7 q8 lo18 (own_ne' r7.own e18 (by decide))).less' (by intro g hg; simp at hg ⊢; omega)
    · have r3 := q.on b5 [g45] (by simp only [List.mem_singleton]; rintro _ rfl; exact ⟨lo45, heap_lt t45⟩)
      have r4 : Rw none w2 w2.heap.size 39 w5 (.slice A20 n21 n22) ((ls[k].2.2.2.2.take m).map cutT) [g46, g45, g18, g17, g3] := ⟨r3.own, r3.fr, fun j hj => ⟨(r3.blk j hj).1, fun hm => by
        rcases List.mem_cons.1 hm with rfl | hm
        · have := tail_lt q.own hj; omega
        · exact (r3.blk j hj).2 hm⟩, fun g hg => by
        rcases List.mem_cons.1 hg with rfl | hg
        · exact heap_lt t46
        · exact r3.names g hg, r3.le⟩
      have ec : cutT ls[k].2.2.2.2[m] = ls[k].2.2.2.2[m] := by unfold cutT; rw [if_neg (by omega)]
      obtain ⟨w7, A7, n7, c7, hr7, m7, r7⟩ := r4.append 23 23 _ 168 Tryd.underlying23 infoOp rfl (arg_cells [cutT ls[k].2.2.2.2[m]] 1 rfl (by rw [ec]; exact t46) (by decide) (by simp only [List.mem_singleton]; rintro _ rfl; exact cut_wf hwf)) (by rw [hml]; simp; omega) (by rw [hml]; simp; omega)
      have e18 := (m7.2.2 g18 (by simp) (r4.names g18 (by simp))).trans ((b5.block g18 (heap_lt t18)).trans t18)
      have e17 := (m7.2.2 g17 (by simp) (r4.names g17 (by simp))).trans ((b5.block g17 (heap_lt t17)).trans t17)
      -- one operation more
      refine ⟨w7, A7, n7, c7, hr7, ⟨f2.step (fr_below (fr_none m7.1)), m7.2⟩, fun w8 f8 q8 => ⟨⟨m + 1, by rw [wrap_in (by omega)]; rfl, hm', by omega, lo17, lo18, ⟨C17, (q8.block g17 (heap_lt e17) (by simpa using n78)).trans e17⟩, ?_⟩, by dsimp only; rw [wrap_in (by omega)]; omega⟩⟩
      rw [cutt_take _ m hm']
      exact (Rw.past r7 q8 lo18 (own_ne' r7.own e18 (by decide))).less' (by intro g hg; simp at hg ⊢; omega)
  · have em : (ls[k].2.2.2.2.take m).map cutT = (ls[k].2.2.2.2.take 8).map cutT := by rw [show m = 8 by omega]
    -- the step goes behind the others
    intro g23 hg23 w5 f5 q5 lo23 t23
    have own5 := past_own q.own q5 (own_ne' q.own t17 (by decide))
    have F25 : Fr (fun _ => False) w2 w5 := fr_none (fr_in q.fr q5 (by simp only [List.mem_singleton]; rintro _ rfl; exact lo17))
    have b25 := fr_below F25
    have r5 := r.on b25 [g23, g18, g17] (by
      simp only [List.mem_cons, List.not_mem_nil, or_false]
      rintro _ (rfl | rfl | rfl)
      · exact ⟨Nat.le_trans q.fr.size lo23, heap_lt t23⟩
      · exact ⟨lo18, Nat.lt_of_lt_of_le (heap_lt t18) q5.size⟩
      · exact ⟨lo17, Nat.lt_of_lt_of_le (heap_lt t17) q5.size⟩)
    have al5 := al_stt al (stT_below b25)
    have new : IsS w5 ((ls[k].1, ls[k].2.1, ls[k].2.2.1, ls[k].2.2.2.1, ⟨A20, n21, n22⟩) : HdS) (cutS ls[k]) := ⟨rfl, rfl, rfl, rfl, by
      have := own_nT own5 (by decide)
      rw [em] at this
      exact this⟩
    have hlh : hs.length = k := by rw [al.1, List.length_map, List.length_take]; omega
    obtain ⟨w6, A24, n25, n26, hr6, m6, r6, gr6, -⟩ := r5.append2 51 51 _ 56 Tryd.underlying51 infoS rfl (arg_cells [((ls[k].1, ls[k].2.1, ls[k].2.2.1, ls[k].2.2.2.1, ⟨A20, n21, n22⟩) : HdS)] 1 rfl t23 (by decide) (by simp only [List.mem_singleton]; rintro _ rfl; exact hd_wf hrg _)) (by rw [hlh]; simp; omega) (by rw [hlh]; simp; omega)
    refine ⟨w6, A24, n25, n26, hr6, m6, ⟨k + 1, by rw [wrap_in (by omega)]; rfl, hx, by omega, _, r6.less' (by intro g hg; simp at hg ⊢; omega), ?_⟩, by dsimp only; rw [wrap_in (by omega)]; omega⟩
    rw [cuts_take ls k hx]
    exact al_stt (al5.append (Al.one new)) (stT_app r5.own gr6)
  · have em : (ls[k].2.2.2.2.take m).map cutT = (ls[k].2.2.2.2.take 8).map cutT := by rw [List.take_of_length_le (by omega), List.take_of_length_le (by omega)]
    -- the step goes behind the others
    intro g23 hg23 w5 f5 q5 lo23 t23
    have own5 := past_own q.own q5 (own_ne' q.own t17 (by decide))
    have F25 : Fr (fun _ => False) w2 w5 := fr_none (fr_in q.fr q5 (by simp only [List.mem_singleton]; rintro _ rfl; exact lo17))
    have b25 := fr_below F25
    have r5 := r.on b25 [g23, g18, g17] (by
      simp only [List.mem_cons, List.not_mem_nil, or_false]
      rintro _ (rfl | rfl | rfl)
      · exact ⟨Nat.le_trans q.fr.size lo23, heap_lt t23⟩
      · exact ⟨lo18, Nat.lt_of_lt_of_le (heap_lt t18) q5.size⟩
      · exact ⟨lo17, Nat.lt_of_lt_of_le (heap_lt t17) q5.size⟩)
    have al5 := al_stt al (stT_below b25)
    have new : IsS w5 ((ls[k].1, ls[k].2.1, ls[k].2.2.1, ls[k].2.2.2.1, ⟨A20, n21, n22⟩) : HdS) (cutS ls[k]) := ⟨rfl, rfl, rfl, rfl, by
      have := own_nT own5 (by decide)
      rw [em] at this
      exact this⟩
    have hlh : hs.length = k := by rw [al.1, List.length_map, List.length_take]; omega
    obtain ⟨w6, A24, n25, n26, hr6, m6, r6, gr6, -⟩ := r5.append2 51 51 _ 56 Tryd.underlying51 infoS rfl (arg_cells [((ls[k].1, ls[k].2.1, ls[k].2.2.1, ls[k].2.2.2.1, ⟨A20, n21, n22⟩) : HdS)] 1 rfl t23 (by decide) (by simp only [List.mem_singleton]; rintro _ rfl; exact hd_wf hrg _)) (by rw [hlh]; simp; omega) (by rw [hlh]; simp; omega)
    refine ⟨w6, A24, n25, n26, hr6, m6, ⟨k + 1, by rw [wrap_in (by omega)]; rfl, hx, by omega, _, r6.less' (by intro g hg; simp at hg ⊢; omega), ?_⟩, by dsimp only; rw [wrap_in (by omega)]; omega⟩
    rw [cuts_take ls k hx]
    exact al_stt (al5.append (Al.one new)) (stT_app r5.own gr6)
end Go.Proofs.YtfjenamomipmdaaDoor
