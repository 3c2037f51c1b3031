/- Opcode: the document's reader. -/
import Derived.Test.YtfjenamomipmdaaDoorOcM
set_option linter.unusedSimpArgs false
set_option linter.unusedVariables false
namespace Go.Proofs.YtfjenamomipmdaaDoor
open Go Go.RowKit Go.Proofs Go.Trc Go.Sx
def oneV (s : RS) : Int × RS := match s.1 with
  | [] => (0, ([], true))
  | c :: r => ((c.toNat : Int), (r, s.2))
theorem oneV_nil (b : Bool) : oneV ([], b) = (0, ([], true)) := rfl
theorem oneV_cons (c : UInt8) (r : List UInt8) (b : Bool) : oneV (c :: r, b) = ((c.toNat : Int), (r, b)) := rfl
theorem one_val (s : RS) : 0 ≤ (oneV s).1 ∧ (oneV s).1 ≤ 255 := by
  unfold oneV
  split
  · decide
  · rename_i c r _; have := c.toNat_lt; show 0 ≤ (c.toNat : Int) ∧ (c.toNat : Int) ≤ 255; omega
def cornQK (v : Int × Int) (n : Int × RS) : Crn × RS := if n.1 = 1 ∨ n.1 = 2 then ((v.1, v.2, (idR n.2).1.1, (idR n.2).1.2, n.1 - 1), (idR n.2).2) else ((v.1, v.2, 0, 0, 0), (n.2.1, n.2.2 || decide (2 < n.1)))
def cornQ (s : RS) : Crn × RS := cornQK (idR s).1 (oneV (idR s).2)
def more (n : Int × RS) : RS := (n.2.1, n.2.2 || decide (1 < n.1))
def opQK (k : Int) (i : Int × Int) (s : RS) : OpV × RS :=
  if k = 3 then opK3 k i (cornQ s) (cornQ (cornQ s).2)
  else if k = 5 then opK5 k i (idR s) (idR (idR s).2) (oneV (idR (idR s).2).2)
  else if k = 6 then opK6 k i (idR s)
  else if k = 7 then opK7 k i (oneV s).1 (takenV textV (more (oneV s)))
  else if k = 8 then opK8 k i (oneV s).1 (takenV numV (more (oneV s)))
  else opK0 k i s
def opQ (s : RS) : OpV × RS := opQK (oneV s).1 (idR (oneV s).2).1 (idR (oneV s).2).2
abbrev TQ : TypeId := 95
theorem rdr_bad {w : World} {B g : Nat} {T : TypeId} {s : RS} (h : Rdr w B g T s) (bad : Bool) :
    ∃ w2, (Instr.storeAt 4 (.pointer (some ⟨g, 1, none⟩)) (.bool bad)).run Tryd.prog w = .ok () w2 ∧ Fr (fun b => b ∈ [g]) w w2 ∧ Rdr w2 B g T (s.1, bad) := by
  obtain ⟨hB, A, n, c, hg, hn, hs⟩ := h
  obtain ⟨w2, hr2, hg2, gr2⟩ := store_row (P := Tryd.prog) (w := w) 4 (by kernel_rfl) (v := .bool bad) (o := 1) hg (by simp) rfl rfl
  have f2 := fr_of_grown gr2
  exact ⟨w2, hr2, f2, hB, A, n, c, hg2, hn, hs.past f2 fun x hx => by simp only [List.mem_singleton] at hx; omega⟩
set_option maxHeartbeats 1000000 in
theorem qone_c {w : World} {B g : Nat} {s : RS} (h : Rdr w B g TQ s) : Calls Tryd.prog 48 #[.pointer (some ⟨g, 0, none⟩)] w (TR w B g TQ encI (oneV s)) := by
  obtain ⟨hB, A, n, c, hg, hn, hs⟩ := id h
  obtain ⟨xs, bad⟩ := s
  have hl := hs.len
  refine qone_sx _ (fun b => b ∈ [g]) w _ ⟨g, 0, rfl, A, n, c, cells_row hg rfl, fun h0 => ⟨g, 0, rfl, ?_⟩, fun h0 => ⟨g, 0, rfl, A, n, c, cells_row hg rfl, by omega, by omega, ?_⟩⟩
  · obtain rfl : xs = [] := List.eq_nil_of_length_eq_zero (by have hl : n = xs.length := hl; omega)
    obtain ⟨w2, hr2, f2, r2⟩ := rdr_bad h true
    exact ⟨w2, hr2, tr_ok (Fr.refl _ _) f2 (by simp), rfl, r2, f2⟩
  · have hl : n = xs.length := hl
    obtain ⟨a, r, rfl⟩ : ∃ a r, xs = a :: r := by cases xs with | nil => simp at hl; omega | cons a r => exact ⟨a, r, rfl⟩
    obtain ⟨p, o, hA, hp, c1⟩ := byte_at hs 0 (by simp)
    obtain ⟨A2, hr2, s2⟩ := lo_b hs (k := 1) (by omega)
    refine ⟨p, o, hA, _, c1, g, 0, rfl, A, n, c, cells_row hg rfl, A2, _, _, hr2 w, g, 0, rfl, ?_⟩
    obtain ⟨w2, hs2, hg2, gr2⟩ := store_row (P := Tryd.prog) (w := w) 22 (by kernel_rfl) (v := .slice A2 (n - 1) (c - 1)) (o := 0) hg (by simp) rfl rfl
    have f2 := fr_of_grown gr2
    refine ⟨w2, hs2, tr_ok (Fr.refl _ _) f2 (by simp), ?_, ⟨hB, A2, n - 1, c - 1, hg2, by omega, s2.past f2 fun x hx => by simp only [List.mem_singleton] at hx; omega⟩, f2⟩
    have : IntKind.i64.wrap (((a :: r)[0].toNat : Nat) : Int) = (a.toNat : Int) := i64_byte a
    rw [this]; rfl
set_option maxHeartbeats 1000000 in
theorem qid_c {w : World} {B g : Nat} {s : RS} (h : Rdr w B g TQ s) : Calls Tryd.prog 75 #[.pointer (some ⟨g, 0, none⟩)] w (TR w B g TQ encP (idR s)) := by
  have lg := h.lt
  refine qid_sx _ (fun b => b ∈ [g]) w _ ?_
  intro g1 hg1
  refine ⟨g, 0, rfl, fun w1 f1 b1 lo1 t1 => ?_⟩
  obtain ⟨hB, A, n, c, hg, hn, hs⟩ := h.below b1
  have ht := identV_len s.1
  refine ⟨A, n, c, cells_row hg rfl, (ref01Take_c hs).mono ?_⟩
  rintro e w2 ⟨A8, n9, c10, rfl, s1, b2⟩
  refine ⟨_, _, A8, n9, c10, _, rfl, ok_ret b2 f1, fun g13 hg13 => ⟨g, 0, rfl, fun w3 f3' b3 lo13 t13 => ?_⟩⟩
  have b23 := b2.trans (b3.mono b2.size)
  have hg1' := (b23.block g (heap_lt hg)).trans hg
  have s1 := s1.below b23
  cases hb : s.2 with
  | true =>
    obtain ⟨w4, hr2, hg2', f2, w5, hr3, f3, r3⟩ := rdr_store hB hg1' s1 (by have := s1.len; have := ht; have := hs.len; omega) true
    refine ⟨w4, hr2, tr_ok f3' f2 (by simp; omega), g, 0, rfl, s.2, cells_row hg2' rfl, fun _ => ⟨g, 0, rfl, w5, hr3, tr_ok (fr_trans f3' f2) f3 (by simp; omega), fun w6 f6 q6 => ⟨rfl, ?_, f6⟩⟩, fun hf => by rw [hb] at hf; cases hf⟩
    show Rdr w6 B g _ ((identV s.1).2.1, s.2 || !(identV s.1).2.2)
    rw [hb]; exact r3.past q6 (by simp; omega)
  | false =>
    obtain ⟨w4, hr2, hg2', f2, w5, hr3, f3, r3⟩ := rdr_store hB hg1' s1 (by have := s1.len; have := ht; have := hs.len; omega) (!(identV s.1).2.2)
    refine ⟨w4, hr2, tr_ok f3' f2 (by simp; omega), g, 0, rfl, s.2, cells_row hg2' rfl, (fun hf => by rw [hb] at hf; cases hf), fun _ => ⟨g, 0, rfl, w5, hr3, tr_ok (fr_trans f3' f2) f3 (by simp; omega), fun w6 f6 q6 => ⟨rfl, ?_, f6⟩⟩⟩
    show Rdr w6 B g _ ((identV s.1).2.1, s.2 || !(identV s.1).2.2)
    rw [hb]; exact r3.past q6 (by simp; omega)
set_option maxHeartbeats 1000000 in
theorem qcorner_c {w : World} {B g : Nat} {s : RS} (h : Rdr w B g TQ s) : Calls Tryd.prog 76 #[.pointer (some ⟨g, 0, none⟩)] w (TR w B g TQ encC (cornQ s)) := by
  have lg := h.lt
  have hB := h.1
  refine qcorner_sx _ (fun b => b ∈ [g]) w _ ?_
  intro g1 hg1 w1 f1 b1 lo1 t1
  refine (qid_c (h.below b1)).mono ?_
  rintro e w2 ⟨rfl, r2, q2⟩
  refine ⟨_, _, rfl, tr_ok f1 q2 (by simp; omega), fun g4 hg4 w3 f3 b3 lo4 t4 => ?_⟩
  have e0 : cornQ s = cornQK (idR s).1 (oneV (idR s).2) := rfl
  rw [e0]
  generalize idR s = I at r2 ⊢
  refine (qone_c (r2.below b3)).mono ?_
  rintro e w4 ⟨rfl, r4, q4⟩
  have hv := one_val I.2
  generalize oneV I.2 = N at r4 hv ⊢
  have f4 := (tr_ok (G := []) f3 q4 (by simp)).1
  refine ⟨_, rfl, tr_ok f3 q4 (by simp; omega), fun hgt => ⟨g, 0, rfl, ?_⟩, fun hle => ⟨fun h1 => ?_, fun h1 => ⟨fun h2 => ?_, fun h2 w5 f5 q5 => ?_⟩⟩⟩
  · have hgt : 2 < N.1 := hgt
    obtain ⟨w5, hr5, f5, r5⟩ := rdr_bad r4 true
    refine ⟨w5, hr5, tr_ok f4 f5 (by simp; omega), fun h1 => ?_, fun h1 => ⟨fun h2 => ?_, fun h2 w6 f6 q6 => ?_⟩⟩
    · have h1 : N.1 = 1 := h1
      omega
    · have h2 : N.1 = 2 := h2
      omega
    · unfold cornQK; rw [if_neg (by omega)]
      refine ⟨rfl, ?_, f6⟩
      show Rdr w6 B g _ (N.2.1, N.2.2 || decide (2 < N.1))
      rw [decide_eq_true hgt, Bool.or_true]
      exact r5.past q6 (by simp; omega)
  · have h1 : N.1 = 1 := h1
    refine (qid_c r4).mono ?_
    rintro e w5 ⟨rfl, r5, q5⟩
    refine ⟨_, _, rfl, tr_ok f4 q5 (by simp; omega), fun w6 f6 q6 => ?_⟩
    have hw : IntKind.i64.wrap (N.1 - 1) = N.1 - 1 := wrap_in (by omega)
    unfold cornQK; rw [if_pos (.inl h1)]
    exact ⟨by rw [hw]; rfl, r5.past q6 (by simp; omega), f6⟩
  · have h2 : N.1 = 2 := h2
    refine (qid_c r4).mono ?_
    rintro e w5 ⟨rfl, r5, q5⟩
    refine ⟨_, _, rfl, tr_ok f4 q5 (by simp; omega), fun w6 f6 q6 => ?_⟩
    have hw : IntKind.i64.wrap (N.1 - 1) = N.1 - 1 := wrap_in (by omega)
    unfold cornQK; rw [if_pos (.inr h2)]
    exact ⟨by rw [hw]; rfl, r5.past q6 (by simp; omega), f6⟩
  · have h1 : ¬ N.1 = 1 := h1
    have h2 : ¬ N.1 = 2 := h2
    have hle : N.1 ≤ 2 := hle
    unfold cornQK; rw [if_neg (by omega)]
    refine ⟨rfl, ?_, f5⟩
    show Rdr w5 B g _ (N.2.1, N.2.2 || decide (2 < N.1))
    rw [decide_eq_false (by omega), Bool.or_false]
    exact r4.past q5 (by simp; omega)
end Go.Proofs.YtfjenamomipmdaaDoor
