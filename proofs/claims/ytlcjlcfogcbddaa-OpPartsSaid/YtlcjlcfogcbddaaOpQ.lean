/- The law OpNames. -/
import Derived.Test.YtlcjlcfogcbddaaOpM
set_option linter.unusedSimpArgs false
set_option linter.unusedVariables false
namespace Go.Proofs.Ytlcjlcfogcbddaa
open Go Go.RowKit Go.Proofs Go.Trc Go.Sx

theorem firstBad_zero : ∀ {l : List OpV}, firstBad l = 0 ↔ ∀ o ∈ l, mayV o = 0
  | [] => by simp [firstBad]
  | o :: l => by
    unfold firstBad
    split
    · rename_i h
      rw [firstBad_zero]
      simp [h]
    · rename_i h
      simp [h]
theorem mayEdit_zero {l : List OpV} : mayEditV l = 0 ↔ (0 < l.length ∧ l.length ≤ 6) ∧ ∀ o ∈ l, mayV o = 0 := by
  unfold mayEditV
  split
  · rename_i h
    constructor
    · intro h; cases h
    · rintro ⟨h1, _⟩; omega
  · rename_i h
    rw [firstBad_zero]
    constructor
    · intro h1; exact ⟨by omega, h1⟩
    · exact fun h => h.2
theorem may_parts {o : OpV} (h : mayV o = 0) : onlyV o = o ∧ idOk o.s o.n = true ∧ partsOk o = true ∧ (o.kd = 7 → labelOk o.tx = true) := by
  unfold mayV at h
  split at h
  · rename_i ho
    unfold badV at h
    split at h
    · rename_i hi
      rw [Bool.and_eq_true] at hi
      refine ⟨ho, hi.1, hi.2, fun h7 => ?_⟩
      split at h
      · cases h
      · rename_i hl
        cases hh : labelOk o.tx with
        | true => rfl
        | false => exact absurd (by simp [h7, hh]) hl
    · cases h
  · cases h
theorem name_ok {o : OpV} (h : mayV o = 0) : ∀ x ∈ nameV o, idOk x.s x.n = true := by
  obtain ⟨_, h1, h2, _⟩ := may_parts h
  intro x hx
  unfold nameV at hx
  split at hx
  · simp only [List.mem_singleton] at hx; subst hx; exact h1
  · split at hx
    · rename_i h13 h5
      unfold partsOk at h2
      simp only [h5] at h2
      simp only [Int.reduceEq, or_self, if_false, if_true, Bool.and_eq_true] at h2
      simp only [List.mem_cons, List.not_mem_nil, or_false] at hx
      rcases hx with rfl | rfl
      · exact h2.1
      · exact h2.2.1
    · cases hx
theorem names_ok {l : List OpV} (h : ∀ o ∈ l, mayV o = 0) : ∀ x ∈ namesV l, idOk x.s x.n = true := fun x hx => by
  obtain ⟨o, ho, hx⟩ := List.mem_flatMap.1 hx
  exact name_ok (h o ho) x hx
theorem names_split (l : List OpV) (k : Nat) (h : k < l.length) : namesV l = namesV (l.take k) ++ (nameV l[k] ++ namesV (l.drop (k + 1))) := by
  conv => lhs; rw [← List.take_append_drop k l, List.drop_eq_getElem_cons h]
  unfold namesV
  rw [List.flatMap_append, List.flatMap_cons]
theorem names_at {l : List OpV} {k j : Nat} (h : k < l.length) (hj : j < (nameV l[k]).length) : ∃ h2 : (namesV (l.take k)).length + j < (namesV l).length, (namesV l)[(namesV (l.take k)).length + j] = (nameV l[k])[j] := by
  have e := names_split l k h
  have hl : (namesV (l.take k)).length + j < (namesV l).length := by rw [e]; simp only [List.length_append]; omega
  refine ⟨hl, ?_⟩
  have h1 : (namesV l)[(namesV (l.take k)).length + j]? = some (nameV l[k])[j] := by
    rw [e, List.getElem?_append_right (by omega), Nat.add_sub_cancel_left, List.getElem?_append_left hj, List.getElem?_eq_getElem hj]
  rw [List.getElem?_eq_getElem hl] at h1
  injection h1


set_option maxHeartbeats 8000000 in
theorem opNames_wk {w : World} {A : Option Addr} {n c : Nat} {xs : List OpV} (h : Sl w (fun b => b < w.heap.size) (.slice A n c) xs) :
    Calls Try.prog 6 #[.agg #[.slice A n c]] w (Ret (.bool true) w) := by
  refine opNames_sx _ (fun _ => False) w A n c ?_
  intro g3 hg3 w1 f1 b1 lo3 t3
  refine (shown_c w1).mono ?_
  rintro e w2 ⟨rfl, b2⟩
  have f2 := f1.step b2
  refine ⟨_, rfl, ok_ret b2 f1, ?_⟩
  refine (few_c (h.below (fr_below f2))).mono ?_
  rintro e w3 ⟨n3, rfl, hn3, s3, b3⟩
  have f3 := f2.step b3
  refine ⟨A, n3, c, rfl, ok_ret b3 f2, fun w4 f4 _ => ?_⟩
  have s4 := s3.same f2 f4
  clear s3 h
  generalize xs.take 10 = xs at s4
  have hx := s4.len
  refine (mayEdit_c w4 _ A n3 c _ s4).mono ?_
  rintro e w5 ⟨rfl, b5⟩
  have f5 := f4.step b5
  refine ⟨_, rfl, ok_ret b5 f4, fun _ => ret_leaf f5 rfl, fun hm => ?_⟩
  obtain ⟨hxl, hall⟩ := mayEdit_zero.1 hm
  have hnl := namesV_len xs
  refine (names_c (s4.same f4 f5) (by omega)).mono ?_
  rintro e w6 ⟨A9, n10, n11, rfl, o6, b6⟩
  have f6 := f5.step b6
  have hn6 := o6.sl.any
  have h10 := hn6.len
  refine ⟨A9, n10, n11, rfl, ok_ret b6 f5, ?_⟩
  refine ⟨fun _ at_ i w7 => ∃ k : Nat, i = k ∧ k ≤ xs.length ∧ at_ = ((namesV (xs.take k)).length : Int) ∧ Sl w7 (fun _ => True) (.slice A9 n10 n11) (namesV xs), fun _ _ i _ => (n3 - i : Int).toNat, ⟨0, rfl, Nat.zero_le _, rfl, hn6⟩, ?_⟩
  rintro b12 _ _ w7 f7 ⟨k, rfl, hk, rfl, hn7⟩
  refine ⟨fun hlt => ?_, fun hge => ?_⟩
  · have hlt' : k < xs.length := by omega
    obtain ⟨b, o, rfl, _, _, hw, hc⟩ := Sl.cells (s4.same f4 f7) k hlt'
    have htk := namesV_len (xs.take k)
    have htk2 : (xs.take k).length = k := by simp; omega
    refine ⟨by omega, hlt, b, o, rfl, _, _, _, _, _, _, _, _, _, _, _, _, _, _, _, _, _, _, _, _, hc, fun g37 hg37 => ?_⟩
    by_cases hkd : xs[k].kd = 1 ∨ xs[k].kd = 3 ∨ xs[k].kd = 5
    · obtain ⟨b9, o9, rfl, _, hb9, _, _⟩ := Sl.cells hn7 (namesV (xs.take k)).length (by
        rw [names_split xs k hlt']
        simp only [List.length_append]
        have : 0 < (nameV xs[k]).length := by unfold nameV; split; simp; split; simp; omega
        omega)
      refine ⟨fun h1 => ?_, fun h1 => ⟨fun h3 => ?_, fun h3 => ⟨fun h5 => ?_, fun h5 => by omega⟩⟩⟩
      · skip
        -- one name of this kind
        have hnm : nameV xs[k] = [⟨xs[k].s, xs[k].n⟩] := by unfold nameV; rw [if_pos (.inl h1)]
        intro w8 f8 b8 lo37 t37
        obtain ⟨hl0, e0⟩ := names_at (l := xs) (k := k) (j := 0) hlt' (by rw [hnm]; simp)
        have e0' : (namesV xs)[(namesV (xs.take k)).length] = ⟨xs[k].s, xs[k].n⟩ := by
          have e1 : (nameV xs[k])[0]'(by rw [hnm]; simp) = ⟨xs[k].s, xs[k].n⟩ := by simp only [hnm]; rfl
          exact e0.trans e1
        have ht := names_take xs k hlt'
        rw [hnm] at ht
        have htl : (namesV (xs.take (k + 1))).length = (namesV (xs.take k)).length + 1 := by rw [ht]; simp
        rw [wrap_in (x := ((namesV (xs.take k)).length : Int) + 1) (by omega)]
        refine ⟨fun hlt9 => absurd hlt9 (by omega), fun _ => ⟨by omega, by omega, b9, o9, rfl, fun w9 f9 b9' => ⟨_, _, (hn7.below (b8.trans (b9'.mono b8.size))).at_k (namesV (xs.take k)).length (by omega), ⟨Nat.lt_of_lt_of_le hb9 b8.size, by simp⟩, !(decide ((namesV xs)[(namesV (xs.take k)).length] = (⟨xs[k].s, xs[k].n⟩ : IDV))), fun w' _ => neq_id w' _ ⟨xs[k].s, xs[k].n⟩, ?_, ?_⟩⟩⟩
        · intro hb; rw [e0'] at hb; simp at hb
        · intro _
          exact ⟨⟨k + 1, by rw [wrap_in (by omega)]; rfl, hlt', by rw [htl]; rfl, hn7.below (b8.trans (b9'.mono b8.size))⟩, by rw [wrap_in (by omega)]; dsimp only; omega⟩
      · skip
        -- one name of this kind
        have hnm : nameV xs[k] = [⟨xs[k].s, xs[k].n⟩] := by unfold nameV; rw [if_pos (.inr h3)]
        intro w8 f8 b8 lo37 t37
        obtain ⟨hl0, e0⟩ := names_at (l := xs) (k := k) (j := 0) hlt' (by rw [hnm]; simp)
        have e0' : (namesV xs)[(namesV (xs.take k)).length] = ⟨xs[k].s, xs[k].n⟩ := by
          have e1 : (nameV xs[k])[0]'(by rw [hnm]; simp) = ⟨xs[k].s, xs[k].n⟩ := by simp only [hnm]; rfl
          exact e0.trans e1
        have ht := names_take xs k hlt'
        rw [hnm] at ht
        have htl : (namesV (xs.take (k + 1))).length = (namesV (xs.take k)).length + 1 := by rw [ht]; simp
        rw [wrap_in (x := ((namesV (xs.take k)).length : Int) + 1) (by omega)]
        refine ⟨fun hlt9 => absurd hlt9 (by omega), fun _ => ⟨by omega, by omega, b9, o9, rfl, fun w9 f9 b9' => ⟨_, _, (hn7.below (b8.trans (b9'.mono b8.size))).at_k (namesV (xs.take k)).length (by omega), ⟨Nat.lt_of_lt_of_le hb9 b8.size, by simp⟩, !(decide ((namesV xs)[(namesV (xs.take k)).length] = (⟨xs[k].s, xs[k].n⟩ : IDV))), fun w' _ => neq_id w' _ ⟨xs[k].s, xs[k].n⟩, ?_, ?_⟩⟩⟩
        · intro hb; rw [e0'] at hb; simp at hb
        · intro _
          exact ⟨⟨k + 1, by rw [wrap_in (by omega)]; rfl, hlt', by rw [htl]; rfl, hn7.below (b8.trans (b9'.mono b8.size))⟩, by rw [wrap_in (by omega)]; dsimp only; omega⟩
      · have hnm : nameV xs[k] = [⟨xs[k].s1, xs[k].n1⟩, ⟨xs[k].s2, xs[k].n2⟩] := by unfold nameV; rw [if_neg (by omega), if_pos h5]
        intro w8 f8 b8 lo37 t37
        obtain ⟨hl0, e0⟩ := names_at (l := xs) (k := k) (j := 0) hlt' (by rw [hnm]; simp)
        obtain ⟨hl1, e1⟩ := names_at (l := xs) (k := k) (j := 1) hlt' (by rw [hnm]; simp)
        have e0' : (namesV xs)[(namesV (xs.take k)).length] = ⟨xs[k].s1, xs[k].n1⟩ := e0.trans (by simp only [hnm]; rfl)
        have e1' : (namesV xs)[(namesV (xs.take k)).length + 1] = ⟨xs[k].s2, xs[k].n2⟩ := e1.trans (by simp only [hnm]; rfl)
        have ht := names_take xs k hlt'
        rw [hnm] at ht
        have htl : (namesV (xs.take (k + 1))).length = (namesV (xs.take k)).length + 2 := by rw [ht]; simp
        rw [wrap_in (x := ((namesV (xs.take k)).length : Int) + 2) (by omega), wrap_in (x := ((namesV (xs.take k)).length : Int) + 1) (by omega)]
        refine ⟨fun hlt9 => absurd hlt9 (by omega), fun _ => ⟨by omega, by omega, b9, o9, rfl, fun w9 f9 b9' => ⟨_, _, (hn7.below (b8.trans (b9'.mono b8.size))).at_k (namesV (xs.take k)).length (by omega), ⟨Nat.lt_of_lt_of_le hb9 b8.size, by simp⟩,
          !(decide ((namesV xs)[(namesV (xs.take k)).length] = (⟨xs[k].s1, xs[k].n1⟩ : IDV))), fun w' _ => neq_id w' _ ⟨xs[k].s1, xs[k].n1⟩, ?_, ?_⟩⟩⟩
        · intro hb; rw [e0'] at hb; simp at hb
        · intro _
          refine ⟨by omega, by omega, b9, o9, rfl, _, _, (hn7.below (b8.trans (b9'.mono b8.size))).at_k ((namesV (xs.take k)).length + 1) (by omega), ⟨Nat.lt_of_lt_of_le hb9 b8.size, by simp⟩, !(decide ((namesV xs)[(namesV (xs.take k)).length + 1] = (⟨xs[k].s2, xs[k].n2⟩ : IDV))), fun w' _ => neq_id w' _ ⟨xs[k].s2, xs[k].n2⟩, ?_, ?_⟩
          · intro hb; rw [e1'] at hb; simp at hb
          · intro _
            exact ⟨⟨k + 1, by rw [wrap_in (by omega)]; rfl, hlt', by rw [htl]; rfl, hn7.below (b8.trans (b9'.mono b8.size))⟩, by rw [wrap_in (by omega)]; dsimp only; omega⟩
    · refine ⟨fun h => absurd (.inl h) hkd, fun h1 => ⟨fun h => absurd (.inr (.inl h)) hkd, fun h3 => ⟨fun h => absurd (.inr (.inr h)) hkd, fun h5 w8 f8 b8 _ _ => ?_⟩⟩⟩
      have hnm : nameV xs[k] = [] := by unfold nameV; rw [if_neg (by omega), if_neg h5]
      have ht := names_take xs k hlt'
      rw [hnm, List.append_nil] at ht
      have hlk : (namesV (xs.take k)).length ≤ (namesV xs).length := by rw [names_split xs k hlt']; simp
      rw [Int.add_zero, wrap_in (by omega)]
      exact ⟨fun hlt9 => absurd hlt9 (by omega), fun _ w9 f9 b9 => ⟨⟨k + 1, by rw [wrap_in (by omega)]; rfl, hlt', by rw [ht], hn7.below (b8.trans (b9.mono b8.size))⟩, by rw [wrap_in (by omega)]; dsimp only; omega⟩⟩
  · have hkx : xs.take k = xs := List.take_of_length_le (by omega)
    rw [hkx]
    refine ⟨fun _ i w8 => ∃ k : Nat, i = k ∧ k ≤ n10 ∧ Sl w8 (fun _ => True) (.slice A9 n10 n11) (namesV xs), fun _ i _ => (n10 - i : Int).toNat, ⟨0, rfl, Nat.zero_le _, hn7⟩, ?_⟩
    rintro _ _ w8 f8 ⟨j, rfl, hj, hn8⟩
    refine ⟨fun hlt => ?_, fun hge => ⟨fun _ => ret_leaf f8 (by rw [h10]; simp), fun h => by cases h⟩⟩
    obtain ⟨b9, o9, rfl, _, hb9, _, hc9⟩ := Sl.cells hn8 j (by omega)
    refine ⟨by omega, hlt, b9, o9, rfl, _, _, hc9, (ref01_may_c w8 _ _).mono ?_⟩
    rintro e w9 ⟨rfl, b9⟩
    refine ⟨_, rfl, ok_ret b9 f8, fun hf => ?_, fun _ => ⟨⟨j + 1, by rw [wrap_in (by omega)]; rfl, by omega, hn8.below b9⟩, by rw [wrap_in (by omega)]; dsimp only; omega⟩⟩
    rw [names_ok hall _ (List.getElem_mem _)] at hf
    cases hf

theorem opNames_walk (w : World) (v1 : Value) (xs : List OpV) (h1 : Rep.K w (fun b => b < w.heap.size) xs v1.cells.toList) (z1 : ∃ cs : Array Value, v1 = .agg cs) :
    Calls Try.prog 6 #[v1] w fun e w' => e = .returned (.bool true) ∧ Below w.heap.size w w' := by
  obtain ⟨A, n, c, rfl, s⟩ := edit_of h1 z1
  exact opNames_wk s
end Go.Proofs.Ytlcjlcfogcbddaa
