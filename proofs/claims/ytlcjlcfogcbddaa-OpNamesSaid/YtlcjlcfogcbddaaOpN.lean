/- Operations: names, sameness, few: contracts. -/
import Derived.Test.YtlcjlcfogcbddaaOpZ
import Derived.Test.YtlcjlcfogcbddaaFix
set_option linter.unusedSimpArgs false
set_option linter.unusedVariables false
namespace Go.Proofs.Ytlcjlcfogcbddaa
open Go Go.RowKit Go.Proofs Go.Trc Go.Sx

instance fixOp : Fixed OpV := ⟨fun o => o.cells.toList, fun o => o.ok ∧ o.tx.size ≤ maxLen, ⟨fun h => h, fun h => h⟩⟩
/-- A name. -/
structure IDV where
  s : Int
  n : Int
  deriving DecidableEq
instance repID : Rep IDV where
  sz := 2
  pos := by decide
  K := fun _ _ x cs => cs = [.int .i64 x.s, .int .i64 x.n]
  len := by rintro _ _ _ _ rfl; rfl
  one := by rintro _ _ _ _ rfl u hu; simp at hu; rcases hu with rfl | rfl <;> rfl
  mono := by rintro _ _ _ _ _ _ _ h; exact h
instance fixID : Fixed IDV := ⟨fun x => [.int .i64 x.s, .int .i64 x.n], fun _ => True, ⟨fun h => ⟨h, trivial⟩, fun h => h.1⟩⟩

def nameV (o : OpV) : List IDV := if o.kd = 1 ∨ o.kd = 3 then [⟨o.s, o.n⟩] else if o.kd = 5 then [⟨o.s1, o.n1⟩, ⟨o.s2, o.n2⟩] else []
def namesV (l : List OpV) : List IDV := l.flatMap nameV
theorem nameV_len (o : OpV) : (nameV o).length ≤ 2 := by unfold nameV; split <;> (try split) <;> simp
theorem namesV_len : ∀ l : List OpV, (namesV l).length ≤ 2 * l.length
  | [] => by simp [namesV]
  | o :: l => by
    have := namesV_len l
    have h := nameV_len o
    simp only [namesV, List.flatMap_cons, List.length_append, List.length_cons] at this ⊢
    omega
theorem names_take (l : List OpV) (k : Nat) (h : k < l.length) : namesV (l.take (k + 1)) = namesV (l.take k) ++ nameV l[k] := by
  unfold namesV
  rw [List.take_succ_eq_append_getElem h, List.flatMap_append]
  simp


set_option maxHeartbeats 4000000 in
theorem names_c {w : World} {ok : Nat → Prop} {A : Option Addr} {n c : Nat} {xs : List OpV} (h : Sl w ok (.slice A n c) xs) (hl : n ≤ 1000) :
    Calls Try.prog 15 #[.agg #[.slice A n c]] w (RetRow w 23 (namesV xs)) := by
  have hn := h.len
  refine op_Names_sx _ (fun _ => False) w A n c ?_
  intro g3 hg3
  refine ⟨fun A4 n5 n6 i w2 => ∃ k : Nat, i = k ∧ k ≤ xs.length ∧ Rw none w w.heap.size 23 w2 (.slice A4 n5 n6) (namesV (xs.take k)) [g3], fun _ _ _ i _ => (n - i : Int).toNat,
    fun w1 f1 b1 lo3 t3 => ⟨0, rfl, Nat.zero_le _, Rw.nil f1 (fun k hk => by simp at hk; subst hk; exact heap_lt t3)⟩, ?_⟩
  rintro A4 n5 n6 _ w2 f2 ⟨k, rfl, hk, r⟩
  refine ⟨fun hlt => ?_, fun hge => ?_⟩
  · have hlt' : k < xs.length := by omega
    have h2 := h.below (fr_below f2)
    obtain ⟨b, o, hA, _, _, hw, hc⟩ := Sl.cells h2 k hlt'
    have hll := namesV_len (xs.take k)
    have hlk : (xs.take k).length = k := by simp; omega
    refine ⟨by omega, hlt, b, o, hA, _, _, _, _, _, _, _, _, _, _, _, _, _, _, _, _, _, _, _, _, hc, fun g30 hg30 => ⟨fun h1 => ?_, fun h1 => ⟨fun h3 => ?_, fun h3 => ⟨fun h5 => ?_, fun h5 => ?_⟩⟩⟩⟩
    · skip
      -- 1 names more
      intro g31 hg31 w3 f3 b3 lo31 t31 lo30 t30
      have hm := nameV_len xs[k]
      have hnm : nameV xs[k] = [⟨xs[k].s,xs[k].n⟩] := by unfold nameV; rw [if_pos (.inl h1)]
      obtain ⟨w4, A4, n4, c4, hr4, m4, r4⟩ := (r.on b3 [g31, g30] (by
        intro g hg
        simp only [List.mem_cons, List.not_mem_nil, or_false] at hg
        rcases hg with rfl | rfl
        · exact ⟨lo31, heap_lt t31⟩
        · exact ⟨lo30, heap_lt t30⟩)).append 43 43 (.agg #[.int .i64 0, .int .i64 0]) 16 Try.underlying43 (by kernel_rfl) rfl (arg_cells [⟨xs[k].s,xs[k].n⟩] 1 rfl t31 (by decide) (fun _ _ => trivial)) (by simp only [List.length_cons, List.length_nil]; omega) (by simp only [List.length_cons, List.length_nil]; omega)
      refine ⟨w4, A4, n4, c4, hr4, ⟨fr_none m4.1, m4.2⟩, ?_⟩
      refine ⟨⟨k + 1, by rw [wrap_in (by omega)]; rfl, hlt', ?_⟩, by rw [wrap_in (by omega)]; dsimp only; omega⟩
      rw [names_take xs k hlt', hnm]
      exact r4.less' (by intro g hg; simp only [List.mem_append]; exact .inr hg)
    · skip
      -- 1 names more
      intro g31 hg31 w3 f3 b3 lo31 t31 lo30 t30
      have hm := nameV_len xs[k]
      have hnm : nameV xs[k] = [⟨xs[k].s,xs[k].n⟩] := by unfold nameV; rw [if_pos (.inr h3)]
      obtain ⟨w4, A4, n4, c4, hr4, m4, r4⟩ := (r.on b3 [g31, g30] (by
        intro g hg
        simp only [List.mem_cons, List.not_mem_nil, or_false] at hg
        rcases hg with rfl | rfl
        · exact ⟨lo31, heap_lt t31⟩
        · exact ⟨lo30, heap_lt t30⟩)).append 43 43 (.agg #[.int .i64 0, .int .i64 0]) 16 Try.underlying43 (by kernel_rfl) rfl (arg_cells [⟨xs[k].s,xs[k].n⟩] 1 rfl t31 (by decide) (fun _ _ => trivial)) (by simp only [List.length_cons, List.length_nil]; omega) (by simp only [List.length_cons, List.length_nil]; omega)
      refine ⟨w4, A4, n4, c4, hr4, ⟨fr_none m4.1, m4.2⟩, ?_⟩
      refine ⟨⟨k + 1, by rw [wrap_in (by omega)]; rfl, hlt', ?_⟩, by rw [wrap_in (by omega)]; dsimp only; omega⟩
      rw [names_take xs k hlt', hnm]
      exact r4.less' (by intro g hg; simp only [List.mem_append]; exact .inr hg)
    · skip
      -- 2 names more
      intro g31 hg31 w3 f3 b3 lo31 t31 lo30 t30
      have hm := nameV_len xs[k]
      have hnm : nameV xs[k] = [⟨xs[k].s1,xs[k].n1⟩,⟨xs[k].s2,xs[k].n2⟩] := by unfold nameV; rw [if_neg (by omega),if_pos h5]
      obtain ⟨w4, A4, n4, c4, hr4, m4, r4⟩ := (r.on b3 [g31, g30] (by
        intro g hg
        simp only [List.mem_cons, List.not_mem_nil, or_false] at hg
        rcases hg with rfl | rfl
        · exact ⟨lo31, heap_lt t31⟩
        · exact ⟨lo30, heap_lt t30⟩)).append 43 43 (.agg #[.int .i64 0, .int .i64 0]) 16 Try.underlying43 (by kernel_rfl) rfl (arg_cells [⟨xs[k].s1,xs[k].n1⟩,⟨xs[k].s2,xs[k].n2⟩] 2 rfl t31 (by decide) (fun _ _ => trivial)) (by simp only [List.length_cons, List.length_nil]; omega) (by simp only [List.length_cons, List.length_nil]; omega)
      refine ⟨w4, A4, n4, c4, hr4, ⟨fr_none m4.1, m4.2⟩, ?_⟩
      refine ⟨⟨k + 1, by rw [wrap_in (by omega)]; rfl, hlt', ?_⟩, by rw [wrap_in (by omega)]; dsimp only; omega⟩
      rw [names_take xs k hlt', hnm]
      exact r4.less' (by intro g hg; simp only [List.mem_append]; exact .inr hg)
    · intro w3 f3 b3 lo30 t30
      have hnm : nameV xs[k] = [] := by unfold nameV; rw [if_neg (by omega), if_neg h5]
      refine ⟨⟨k + 1, by rw [wrap_in (by omega)]; rfl, hlt', ?_⟩, by rw [wrap_in (by omega)]; dsimp only; omega⟩
      rw [names_take xs k hlt', hnm, List.append_nil]
      exact r.below b3
  · refine r.ret ?_
    rw [List.take_of_length_le (by omega)]

set_option maxHeartbeats 4000000 in
theorem ref_names_c {w : World} {ok : Nat → Prop} {A : Option Addr} {n c : Nat} {xs : List OpV} (h : Sl w ok (.slice A n c) xs) (hl : n ≤ 1000) :
    Calls Try.prog 17 #[.agg #[.slice A n c]] w (RetRow w 23 (namesV xs)) := by
  have hn := h.len
  refine ref09_Names_sx _ (fun _ => False) w A n c ?_
  intro g3 hg3 g4 hg4
  refine ⟨fun A4 n5 n6 i w2 => ∃ k : Nat, i = k ∧ k ≤ xs.length ∧ Rw none w w.heap.size 23 w2 (.slice A4 n5 n6) (namesV (xs.take k)) [g4, g3], fun _ _ _ i _ => (n - i : Int).toNat,
    fun w1 f1 b1 lo4 t4 lo3 t3 => ⟨0, rfl, Nat.zero_le _, Rw.first f1 hg4 t4 (fun k hk => by simp at hk; rcases hk with rfl | rfl <;> exact heap_lt (by assumption))⟩, ?_⟩
  rintro A4 n5 n6 _ w2 f2 ⟨k, rfl, hk, r⟩
  refine ⟨fun hlt => ?_, fun hge => ?_⟩
  · have hlt' : k < xs.length := by omega
    have h2 := h.below (fr_below f2)
    obtain ⟨b, o, hA, _, _, hw, hc⟩ := Sl.cells h2 k hlt'
    have hll := namesV_len (xs.take k)
    have hlk : (xs.take k).length = k := by simp; omega
    refine ⟨by omega, hlt, b, o, hA, _, _, _, _, _, _, _, _, _, _, _, _, _, _, _, _, _, _, _, _, hc, fun g30 hg30 => ⟨fun h1 => ?_, fun h1 => ⟨fun h3 => ?_, fun h3 => ⟨fun h5 => ?_, fun h5 => ?_⟩⟩⟩⟩
    · skip
      -- 1 names more
      intro g31 hg31 w3 f3 b3 lo31 t31 lo30 t30
      have hm := nameV_len xs[k]
      have hnm : nameV xs[k] = [⟨xs[k].s,xs[k].n⟩] := by unfold nameV; rw [if_pos (.inl h1)]
      obtain ⟨w4, A4, n4, c4, hr4, m4, r4⟩ := (r.on b3 [g31, g30] (by
        intro g hg
        simp only [List.mem_cons, List.not_mem_nil, or_false] at hg
        rcases hg with rfl | rfl
        · exact ⟨lo31, heap_lt t31⟩
        · exact ⟨lo30, heap_lt t30⟩)).append 43 43 (.agg #[.int .i64 0, .int .i64 0]) 16 Try.underlying43 (by kernel_rfl) rfl (arg_cells [⟨xs[k].s,xs[k].n⟩] 1 rfl t31 (by decide) (fun _ _ => trivial)) (by simp only [List.length_cons, List.length_nil]; omega) (by simp only [List.length_cons, List.length_nil]; omega)
      refine ⟨w4, A4, n4, c4, hr4, ⟨fr_none m4.1, m4.2⟩, ?_⟩
      refine ⟨⟨k + 1, by rw [wrap_in (by omega)]; rfl, hlt', ?_⟩, by rw [wrap_in (by omega)]; dsimp only; omega⟩
      rw [names_take xs k hlt', hnm]
      exact r4.less' (by intro g hg; simp only [List.mem_append]; exact .inr hg)
    · skip
      -- 1 names more
      intro g31 hg31 w3 f3 b3 lo31 t31 lo30 t30
      have hm := nameV_len xs[k]
      have hnm : nameV xs[k] = [⟨xs[k].s,xs[k].n⟩] := by unfold nameV; rw [if_pos (.inr h3)]
      obtain ⟨w4, A4, n4, c4, hr4, m4, r4⟩ := (r.on b3 [g31, g30] (by
        intro g hg
        simp only [List.mem_cons, List.not_mem_nil, or_false] at hg
        rcases hg with rfl | rfl
        · exact ⟨lo31, heap_lt t31⟩
        · exact ⟨lo30, heap_lt t30⟩)).append 43 43 (.agg #[.int .i64 0, .int .i64 0]) 16 Try.underlying43 (by kernel_rfl) rfl (arg_cells [⟨xs[k].s,xs[k].n⟩] 1 rfl t31 (by decide) (fun _ _ => trivial)) (by simp only [List.length_cons, List.length_nil]; omega) (by simp only [List.length_cons, List.length_nil]; omega)
      refine ⟨w4, A4, n4, c4, hr4, ⟨fr_none m4.1, m4.2⟩, ?_⟩
      refine ⟨⟨k + 1, by rw [wrap_in (by omega)]; rfl, hlt', ?_⟩, by rw [wrap_in (by omega)]; dsimp only; omega⟩
      rw [names_take xs k hlt', hnm]
      exact r4.less' (by intro g hg; simp only [List.mem_append]; exact .inr hg)
    · skip
      -- 2 names more
      intro g31 hg31 w3 f3 b3 lo31 t31 lo30 t30
      have hm := nameV_len xs[k]
      have hnm : nameV xs[k] = [⟨xs[k].s1,xs[k].n1⟩,⟨xs[k].s2,xs[k].n2⟩] := by unfold nameV; rw [if_neg (by omega),if_pos h5]
      obtain ⟨w4, A4, n4, c4, hr4, m4, r4⟩ := (r.on b3 [g31, g30] (by
        intro g hg
        simp only [List.mem_cons, List.not_mem_nil, or_false] at hg
        rcases hg with rfl | rfl
        · exact ⟨lo31, heap_lt t31⟩
        · exact ⟨lo30, heap_lt t30⟩)).append 43 43 (.agg #[.int .i64 0, .int .i64 0]) 16 Try.underlying43 (by kernel_rfl) rfl (arg_cells [⟨xs[k].s1,xs[k].n1⟩,⟨xs[k].s2,xs[k].n2⟩] 2 rfl t31 (by decide) (fun _ _ => trivial)) (by simp only [List.length_cons, List.length_nil]; omega) (by simp only [List.length_cons, List.length_nil]; omega)
      refine ⟨w4, A4, n4, c4, hr4, ⟨fr_none m4.1, m4.2⟩, ?_⟩
      refine ⟨⟨k + 1, by rw [wrap_in (by omega)]; rfl, hlt', ?_⟩, by rw [wrap_in (by omega)]; dsimp only; omega⟩
      rw [names_take xs k hlt', hnm]
      exact r4.less' (by intro g hg; simp only [List.mem_append]; exact .inr hg)
    · intro w3 f3 b3 lo30 t30
      have hnm : nameV xs[k] = [] := by unfold nameV; rw [if_neg (by omega), if_neg h5]
      refine ⟨⟨k + 1, by rw [wrap_in (by omega)]; rfl, hlt', ?_⟩, by rw [wrap_in (by omega)]; dsimp only; omega⟩
      rw [names_take xs k hlt', hnm, List.append_nil]
      exact r.below b3
  · refine r.ret ?_
    rw [List.take_of_length_le (by omega)]

theorem neq_id (W : World) (x y : IDV) : (binOp .neq 23 (.agg #[.int .i64 x.s, .int .i64 x.n]) (.agg #[.int .i64 y.s, .int .i64 y.n])).run Try.prog W = .ok (.bool (!(decide (x = y)))) W := by
  obtain ⟨s, n⟩ := x
  obtain ⟨s', n'⟩ := y
  go_simp
  by_cases h : s = s' <;> by_cases h' : n = n' <;> simp [h, h']
theorem take_eq_step {α : Type} {xs ys : List α} {k : Nat} (h1 : k < xs.length) (h2 : k < ys.length) (h : xs.take k = ys.take k) (e : xs[k] = ys[k]) : xs.take (k + 1) = ys.take (k + 1) := by
  rw [List.take_succ_eq_append_getElem h1, List.take_succ_eq_append_getElem h2, h, e]
theorem ne_at {α : Type} {xs ys : List α} {k : Nat} (h1 : k < xs.length) (h2 : k < ys.length) (e : ¬ xs[k] = ys[k]) : ¬ xs = ys := fun h => e (by subst h; rfl)
set_option maxHeartbeats 1000000 in
theorem ids_c {w : World} {ok ok' : Nat → Prop} {A A' : Option Addr} {n c n' c' : Nat} {xs ys : List IDV} (h : Sl w ok (.slice A n c) xs) (h' : Sl w ok' (.slice A' n' c') ys) :
    Calls Try.prog 16 #[.slice A n c, .slice A' n' c'] w (Ret (.bool (decide (xs = ys))) w) := by
  have hn := h.len
  have hn' := h'.len
  have hle := h.le
  refine ref04_IDs_sx _ (fun _ => False) w A n c A' n' c' ?_
  refine ⟨fun hne => ret_leaf (Fr.refl _ _) (by rw [decide_eq_false (fun e => hne (by rw [hn, hn', e]))]), fun he => ?_⟩
  refine ⟨fun _ i _ => ∃ k : Nat, i = k ∧ k ≤ xs.length ∧ xs.take k = ys.take k, fun _ i _ => (n - i : Int).toNat, ⟨0, rfl, Nat.zero_le _, rfl⟩, ?_⟩
  rintro b6 _ w1 f1 ⟨k, rfl, hk, he'⟩
  refine ⟨fun hlt => ?_, fun hge => ?_⟩
  · have kx : k < xs.length := by omega
    have ky : k < ys.length := by omega
    obtain ⟨b, o, rfl, _, hb, hw, _⟩ := Sl.cells h k kx
    obtain ⟨b', o', rfl, _, hb', hw', _⟩ := Sl.cells h' k ky
    refine ⟨by omega, hlt, b, o, rfl, fun w2 f2 b2 => ⟨_, _, (h.below (fr_below f2)).at_k k kx, ⟨Nat.lt_of_lt_of_le hb f1.size, by simp⟩, by omega, by omega, b', o', rfl, _, _, (h'.below (fr_below f2)).at_k k ky, ⟨Nat.lt_of_lt_of_le hb' f1.size, by simp⟩,
      !(decide (xs[k] = ys[k])), fun w' _ => neq_id w' xs[k] ys[k], fun hb => ret_leaf f2 ?_, fun hb => ⟨⟨k + 1, by rw [wrap_in (by omega)]; rfl, by omega, ?_⟩, by rw [wrap_in (by omega)]; dsimp only; omega⟩⟩⟩
    · rw [decide_eq_false (ne_at kx ky (by simpa using hb))]
    · exact take_eq_step kx ky he' (by simpa using hb)
  · refine ret_leaf f1 ?_
    rw [List.take_of_length_le (by omega), List.take_of_length_le (by omega)] at he'
    rw [decide_eq_true he']

set_option maxHeartbeats 1000000 in
theorem equal_ops_c {w : World} {ok ok' : Nat → Prop} {A A' : Option Addr} {n c n' c' : Nat} {xs ys : List OpV} (h : Sl w ok (.slice A n c) xs) (h' : Sl w ok' (.slice A' n' c') ys) :
    Calls Try.prog 22 #[.slice A n c, .slice A' n' c'] w (Ret (.bool (decide (xs = ys))) w) := by
  refine slices_Equal_Op_sx _ (fun _ => False) w A n c A' n' c' ?_
  have hn := h.len
  have hn' := h'.len
  have hle := h.le
  refine ⟨fun hne => ret_leaf (Fr.refl _ _) (by rw [decide_eq_false (fun e => hne (by rw [hn,hn',e]))]), fun he => ?_⟩
  refine ⟨fun _ i _ => ∃ k : Nat, i = k ∧ k ≤ xs.length ∧ xs.take k = ys.take k, fun _ i _ => (n - i : Int).toNat, ⟨0,rfl,Nat.zero_le _,rfl⟩, ?_⟩
  rintro b6 _ w1 f1 ⟨k, rfl, hk, he'⟩
  refine ⟨fun hlt => ?_, fun hge => ?_⟩
  · have kx : k < xs.length := by omega
    have ky : k < ys.length := by omega
    obtain ⟨b, o, rfl, _, hb, hw, _⟩ := Sl.cells h k kx
    obtain ⟨b', o', rfl, _, hb', hw', _⟩ := Sl.cells h' k ky
    refine ⟨by omega, hlt, b, o, rfl, fun w2 f2 b2 => ⟨_, _, _, _, _, _, _, _, _, _, _, _, _, _, _, _, _, _, _, _, (h.below (fr_below f2)).at_k k kx, ⟨Nat.lt_of_lt_of_le hb f1.size, by simp⟩, by omega, by omega, b', o', rfl,
      _, _, _, _, _, _, _, _, _, _, _, _, _, _, _, _, _, _, _, _, (h'.below (fr_below f2)).at_k k ky, ⟨Nat.lt_of_lt_of_le hb' f1.size, by simp⟩,
      !(decide (xs[k] = ys[k])), fun w' _ => neq_op w' xs[k] ys[k], fun hb => ret_leaf f2 ?_, fun hb => ⟨⟨k + 1, by rw [wrap_in (by omega)]; rfl, by omega, ?_⟩, by rw [wrap_in (by omega)]; dsimp only; omega⟩⟩⟩
    · rw [decide_eq_false (ne_at kx ky (by simpa using hb))]
    · exact take_eq_step kx ky he' (by simpa using hb)
  · refine ret_leaf f1 ?_
    rw [List.take_of_length_le (by omega), List.take_of_length_le (by omega)] at he'
    rw [decide_eq_true he']
theorem same_c {w : World} {ok ok' : Nat → Prop} {A A' : Option Addr} {n c n' c' : Nat} {xs ys : List OpV} (h : Sl w ok (.slice A n c) xs) (h' : Sl w ok' (.slice A' n' c') ys) :
    Calls Try.prog 14 #[.agg #[.slice A n c], .agg #[.slice A' n' c']] w (Ret (.bool (decide (xs = ys))) w) := by
  refine op_Same_sx _ (fun _ => False) w A n c A' n' c' ?_
  intro g6 hg6 g7 hg7 w1 f1 b1
  refine (equal_ops_c (h.below b1) (h'.below b1)).mono ?_
  rintro e w2 ⟨rfl, b2⟩
  exact ⟨_, rfl, ok_ret b2 f1, ret_leaf (f1.step b2) rfl⟩
set_option maxHeartbeats 1000000 in
theorem ref_same_c {w : World} {ok ok' : Nat → Prop} {A A' : Option Addr} {n c n' c' : Nat} {xs ys : List OpV} (h : Sl w ok (.slice A n c) xs) (h' : Sl w ok' (.slice A' n' c') ys) :
    Calls Try.prog 20 #[.agg #[.slice A n c], .agg #[.slice A' n' c']] w (Ret (.bool (decide (xs = ys))) w) := by
  refine ref09_Same_sx _ (fun _ => False) w A n c A' n' c' ?_
  intro g6 hg6 g7 hg7
  have hn := h.len
  have hn' := h'.len
  have hle := h.le
  refine ⟨fun hne => fun w1 f1 _ => ret_leaf f1 (by rw [decide_eq_false (fun e => hne (by rw [hn,hn',e]))]), fun he => ?_⟩
  refine ⟨fun _ i _ => ∃ k : Nat, i = k ∧ k ≤ xs.length ∧ xs.take k = ys.take k, fun _ i _ => (n - i : Int).toNat, fun w1 _ _ => ⟨0,rfl,Nat.zero_le _,rfl⟩, ?_⟩
  rintro b6 _ w1 f1 ⟨k, rfl, hk, he'⟩
  refine ⟨fun hlt => ?_, fun hge => ?_⟩
  · have kx : k < xs.length := by omega
    have ky : k < ys.length := by omega
    obtain ⟨b, o, rfl, _, hb, hw, _⟩ := Sl.cells h k kx
    obtain ⟨b', o', rfl, _, hb', hw', _⟩ := Sl.cells h' k ky
    refine ⟨by omega, hlt, b, o, rfl, fun w2 f2 b2 => ⟨_, _, _, _, _, _, _, _, _, _, _, _, _, _, _, _, _, _, _, _, (h.below (fr_below f2)).at_k k kx, ⟨Nat.lt_of_lt_of_le hb f1.size, by simp⟩, by omega, by omega, b', o', rfl,
      _, _, _, _, _, _, _, _, _, _, _, _, _, _, _, _, _, _, _, _, (h'.below (fr_below f2)).at_k k ky, ⟨Nat.lt_of_lt_of_le hb' f1.size, by simp⟩,
      !(decide (xs[k] = ys[k])), fun w' _ => neq_op w' xs[k] ys[k], fun hb => ret_leaf f2 ?_, fun hb => ⟨⟨k + 1, by rw [wrap_in (by omega)]; rfl, by omega, ?_⟩, by rw [wrap_in (by omega)]; dsimp only; omega⟩⟩⟩
    · rw [decide_eq_false (ne_at kx ky (by simpa using hb))]
    · exact take_eq_step kx ky he' (by simpa using hb)
  · refine ret_leaf f1 ?_
    rw [List.take_of_length_le (by omega), List.take_of_length_le (by omega)] at he'
    rw [decide_eq_true he']
theorem few_c {w : World} {ok : Nat → Prop} {A : Option Addr} {n c : Nat} {xs : List OpV} (h : Sl w ok (.slice A n c) xs) :
    Calls Try.prog 13 #[.agg #[.slice A n c]] w fun e w' => ∃ n', e = .returned (.agg #[.slice A n' c]) ∧ n' ≤ 10 ∧ Sl w ok (.slice A n' c) (xs.take 10) ∧ Below w.heap.size w w' := by
  have hn := h.len_eq
  refine law09_few_sx _ (fun _ => False) w A n c ?_
  intro g3 hg3 g4 hg4
  refine ⟨fun hlt w1 f1 b1 => ?_, fun hle w1 f1 b1 => ⟨n, rfl, by omega, ?_, b1⟩⟩
  · obtain ⟨h1, h2⟩ := run_cut (P := Try.prog) (w := w1) 36 29 Try.underlying36 rfl (k := 10) (h.below b1) (by omega)
    exact ⟨A, 10, c, h1, fun w2 f2 _ => ⟨10, rfl, Nat.le_refl _, h.take 10 c (by omega) (by omega) (by omega), fr_below f2⟩⟩
  · rw [List.take_of_length_le (by omega)]; exact h
end Go.Proofs.Ytlcjlcfogcbddaa
