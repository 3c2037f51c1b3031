/- Script: rows of steps. -/
import Derived.Test.YtfjenamomipmdaaDoorSpA
set_option linter.unusedSimpArgs false
set_option linter.unusedVariables false
namespace Go.Trc
open Go Go.RowKit Go.Sx
/-- What a slice is told by. -/
structure Hd where
  A : Option Addr
  n : Nat
  c : Nat
@[reducible] def Hd.v (h : Hd) : Value := .slice h.A h.n h.c
instance : Rep Hd where
  sz := 1
  pos := by decide
  K := fun _ _ x cs => cs = [x.v]
  len := by rintro _ _ _ _ rfl; rfl
  one := by rintro _ _ _ _ rfl u hu; simp at hu; subst hu; rfl
  mono := by rintro _ _ _ _ _ _ _ h; exact h
instance : Fixed Hd := ⟨fun x => [x.v], fun _ => True, ⟨fun h => ⟨h, trivial⟩, fun h => h.1⟩⟩
/-- Rows of one length, alike at each place. -/
def Al {α β : Type} (R : α → β → Prop) (xs : List α) (us : List β) : Prop := xs.length = us.length ∧ ∀ j (h1 : j < xs.length) (h2 : j < us.length), R xs[j] us[j]
namespace Al
variable {α β : Type} {R R' : α → β → Prop} {xs ys : List α} {us zs : List β}
theorem nil : Al R [] [] := ⟨rfl, fun j h => by cases h⟩
theorem one {a : α} {b : β} (h : R a b) : Al R [a] [b] := ⟨rfl, fun j h1 _ => by
  obtain rfl : j = 0 := by simpa using h1
  exact h⟩
theorem mono (h : Al R xs us) (m : ∀ a b, R a b → R' a b) : Al R' xs us := ⟨h.1, fun j h1 h2 => m _ _ (h.2 j h1 h2)⟩
theorem append (h : Al R xs us) (h' : Al R ys zs) : Al R (xs ++ ys) (us ++ zs) := by
  refine ⟨by simp [h.1, h'.1], fun j h1 h2 => ?_⟩
  have hl := h.1
  by_cases hj : j < xs.length
  · rw [List.getElem_append_left hj, List.getElem_append_left (by omega)]
    exact h.2 j hj (by omega)
  · rw [List.getElem_append_right (by omega), List.getElem_append_right (by omega)]
    simp only [List.length_append] at h1 h2
    have := h'.2 (j - xs.length) (by omega) (by omega)
    simp only [← hl]
    exact this
end Al
end Go.Trc
namespace Go.Proofs.YtfjenamomipmdaaDoor
open Go Go.RowKit Go.Proofs Go.Trc Go.Sx
/-- A step as it stands in a row: its numbers, and what its operations are told by. -/
abbrev HdS := Int × Int × Int × Int × Hd
/-- A block of another type than a step. -/
def nT (w : World) (b : Nat) : Prop := ∃ C t fr, w.heap[b]? = some (.cells C t fr) ∧ t ≠ 54
def StT (w w' : World) : Prop := ∀ b, nT w b → w'.heap[b]? = w.heap[b]?
theorem StT.ne {w w' : World} (k : StT w w') {b : Nat} (h : nT w b) : nT w' b := by
  obtain ⟨C, t, fr, hh, ht⟩ := id h
  exact ⟨C, t, fr, (k b h).trans hh, ht⟩
theorem stT_below {w w' : World} (b : Below w.heap.size w w') : StT w w' := fun k ⟨C, t, fr, hh, ht⟩ => b.block k (heap_lt hh)
theorem Sl.stt {α : Type} [Rep α] {w w' : World} {v : Value} {xs : List α} (h : Sl w (nT w) v xs) (k : StT w w') : Sl w' (nT w') v xs := Sl.mono (fun b hb _ => ⟨k.ne hb, k b hb⟩) h
theorem own_nT {α : Type} [Rep α] [Flat α] {w : World} {base : Nat} {e : TypeId} {v : Value} {xs : List α} (h : OwnF w base e v xs) (he : e ≠ 54) : Sl w (nT w) v xs := by
  obtain ⟨A, c, rfl, hA⟩ := Own.slice h
  have hs := h.sl
  obtain ⟨A', c', he', h1, h2, h3, h4⟩ := hs
  injection he' with e1 e2 e3
  subst e1; subst e3
  refine ⟨A, c, rfl, h1, h2, h3, fun hp => ?_⟩
  obtain ⟨b, o, hb, hok, hc⟩ := h4 hp
  refine ⟨b, o, hb, ?_, fun j hj => by
    obtain ⟨cs, hK, hcc⟩ := hc j hj
    exact ⟨cs, Flat.flat hK, hcc⟩⟩
  obtain ⟨cs, ⟨_, q⟩, _⟩ := h
  rcases q with ⟨q, _⟩ | ⟨g', cap, cur, q, _, hg', _⟩
  · injection q with q; rw [hb] at q; cases q
  · injection q with q
    rw [hb] at q
    injection q with q
    injection q with q
    subst q
    exact ⟨_, e, _, hg', he⟩
theorem stT_app {α : Type} [Rep α] {w w' : World} {base : Nat} {v : Value} {xs : List α} (o : OwnF w base 54 v xs) (g : w.grownBy w' (tail v)) : StT w w' := by
  rintro b ⟨C, t, fr, hh, ht⟩
  refine g.block b (heap_lt hh) fun hb => ?_
  rcases tail_own v with h0 | h0
  · rw [h0] at hb; cases hb
  · rw [h0] at hb
    exact own_ne' o hh ht hb.symm
/-- What a step's header says of it. -/
def IsS (w : World) (h : HdS) (x : StepV) : Prop := h.1 = x.1 ∧ h.2.1 = x.2.1 ∧ h.2.2.1 = x.2.2.1 ∧ h.2.2.2.1 = x.2.2.2.1 ∧ Sl w (nT w) h.2.2.2.2.v x.2.2.2.2
/-- A row of steps, and what they are. -/
def RowsT (base : Nat) (w : World) (v : Value) (ls : List StepV) : Prop := ∃ hs : List HdS, OwnF w base 54 v hs ∧ Al (IsS w) hs ls
theorem al_stt {w w' : World} {hs : List HdS} {ls : List StepV} (a : Al (IsS w) hs ls) (k : StT w w') : Al (IsS w') hs ls := a.mono fun _ _ s => ⟨s.1, s.2.1, s.2.2.1, s.2.2.2.1, Sl.stt s.2.2.2.2 k⟩
theorem RowsT.below {base : Nat} {w w' : World} {v : Value} {ls : List StepV} (h : RowsT base w v ls) (b : Below w.heap.size w w') : RowsT base w' v ls := by
  obtain ⟨hs, o, a⟩ := h
  exact ⟨hs, o.below b, al_stt a (stT_below b)⟩
theorem rows_sl {base : Nat} {w : World} {v : Value} {hs : List HdS} {ls : List StepV} (o : OwnF w base 54 v hs) (a : Al (IsS w) hs ls) : Sl w (fun _ => True) v ls := by
  obtain ⟨A, c, rfl, h1, h2, h3, h4⟩ := o.sl
  refine ⟨A, c, by rw [a.1], by rw [← a.1]; exact h1, h2, h3, fun hp => ?_⟩
  obtain ⟨b, o', hA, _, hc⟩ := h4 (by rw [a.1]; exact hp)
  refine ⟨b, o', hA, trivial, fun j hj => ?_⟩
  have hj' : j < hs.length := by rw [a.1]; exact hj
  obtain ⟨cs, hK, hcc⟩ := hc j hj'
  obtain ⟨e1, e2, e3, e4, hs5⟩ := a.2 j hj' hj
  obtain ⟨_, _, rfl, k1, _, _, rfl, k2, _, _, rfl, k3, _, _, rfl, k4, k5⟩ := hK
  exact ⟨_, ⟨_, _, rfl, e1 ▸ k1, _, _, rfl, e2 ▸ k2, _, _, rfl, e3 ▸ k3, _, _, rfl, e4 ▸ k4, _, k5, hs5.any⟩, hcc⟩
theorem RowsT.sl {base : Nat} {w : World} {v : Value} {ls : List StepV} (h : RowsT base w v ls) : Sl w (fun _ => True) v ls := by
  obtain ⟨hs, o, a⟩ := h
  exact rows_sl o a
theorem RowsT.len {base : Nat} {w : World} {A : Option Addr} {n c : Nat} {ls : List StepV} (h : RowsT base w (.slice A n c) ls) : n = ls.length := h.sl.len
theorem infoS : (Tryd.prog.info? 54).map (fun i => (i.zero, i.size, i.bytes)) = some (some (.agg #[.int .i64 0, .int .i64 0, .int .i64 0, .int .i64 0, .slice none 0 0]), 5, 56) := by kernel_rfl
def rngs (x : StepV) : Prop := (-9223372036854775808 ≤ x.1 ∧ x.1 ≤ 9223372036854775807) ∧ (-9223372036854775808 ≤ x.2.1 ∧ x.2.1 ≤ 9223372036854775807) ∧ (-9223372036854775808 ≤ x.2.2.1 ∧ x.2.2.1 ≤ 9223372036854775807) ∧ (-9223372036854775808 ≤ x.2.2.2.1 ∧ x.2.2.2.1 ≤ 9223372036854775807)
theorem hd_wf {x : StepV} (h : rngs x) (d : Hd) : Fixed.wf ((x.1, x.2.1, x.2.2.1, x.2.2.2.1, d) : HdS) := ⟨h.1, h.2.1, h.2.2.1, h.2.2.2, trivial⟩
/-- A row of one step. -/
theorem one_step {w : World} {g : Nat} {A : Option Addr} {n c : Nat} (x : StepV) (hx : rngs x) (hg : w.heap[g]? = some (.cells #[.int .i64 x.1, .int .i64 x.2.1, .int .i64 x.2.2.1, .int .i64 x.2.2.2.1, .slice A n c] 54 (0, 0))) (hs : Sl w (nT w) (.slice A n c) x.2.2.2.2) :
    Sl w (fun _ => True) (.slice (some ⟨g, 0, none⟩) 1 1) [x] := by
  have o : OwnF w 0 54 (.slice (some ⟨g, 0, none⟩) 1 1) ([(x.1, x.2.1, x.2.2.1, x.2.2.2.1, ⟨A, n, c⟩)] : List HdS) :=
    OwnF.cells _ 1 rfl (Nat.zero_le g) hg (by decide) (by simp only [List.mem_singleton]; rintro _ rfl; exact hd_wf hx _)
  exact rows_sl o (Al.one ⟨rfl, rfl, rfl, rfl, hs⟩)
theorem step_rng {w : World} {ok : Nat → Prop} {A : Option Addr} {n c : Nat} {ls : List StepV} (h : Sl w ok (.slice A n c) ls) (k : Nat) (hk : k < ls.length) : rngs ls[k] := by
  obtain ⟨b, o, hA, hok, cs, hK, hcc⟩ := h.elem k hk
  obtain ⟨_, _, rfl, ⟨rfl, k1⟩, _, _, rfl, ⟨rfl, k2⟩, _, _, rfl, ⟨rfl, k3⟩, _, _, rfl, ⟨rfl, k4⟩, v, rfl, hs⟩ := hK
  exact ⟨k1, k2, k3, k4⟩
end Go.Proofs.YtfjenamomipmdaaDoor


/- Script: Print of both; the document's example. -/
set_option linter.unusedSimpArgs false
set_option linter.unusedVariables false
namespace Go.Proofs.YtfjenamomipmdaaDoor
open Go Go.RowKit Go.Proofs Go.Trc Go.Sx
def lineB (x : StepV) : List UInt8 := hexB (putS x).1 ++ [10]
def badS (x : StepV) : Bool := decide (¬ (putS x).2 = 0)
def printV (l : List StepV) : List UInt8 × Int := if 2048 < l.length then ([], 3) else match l.find? badS with
  | some x => ([], (putS x).2)
  | none => (l.flatMap lineB, 0)
theorem putS_len {x : StepV} (h : (putS x).2 = 0) : (putS x).1.length ≤ 273 := by
  unfold putS at h ⊢
  split
  · rw [headB_len]; decide
  · rename_i h0
    rw [if_neg h0] at h
    unfold putV at h ⊢
    split
    · rename_i hm
      have := (editB_len hm).1
      rw [List.length_append, headB_len]; omega
    · simp
theorem line_len {x : StepV} (h : (putS x).2 = 0) : (lineB x).length ≤ 600 := by
  have := putS_len h
  rw [lineB, List.length_append, hexB_len, List.length_singleton]; omega
theorem lines_len : ∀ {l : List StepV}, (∀ x ∈ l, (putS x).2 = 0) → (l.flatMap lineB).length ≤ 600 * l.length
  | [], _ => by simp
  | x :: l, h => by
    have := line_len (h x (by simp))
    have := lines_len (l := l) fun y hy => h y (List.mem_cons_of_mem _ hy)
    rw [List.flatMap_cons, List.length_append, List.length_cons]; omega
theorem find_no {l : List StepV} (h : ∀ x ∈ l, (putS x).2 = 0) : l.find? badS = none := by
  rw [List.find?_eq_none]
  intro x hx
  simp [badS, h x hx]
theorem find_at {l : List StepV} {k : Nat} (h : ∀ x ∈ l.take k, (putS x).2 = 0) (hk : k < l.length) (hb : ¬ (putS l[k]).2 = 0) : l.find? badS = some l[k] := by
  have e : l = l.take k ++ l[k] :: l.drop (k + 1) := by rw [← List.drop_eq_getElem_cons hk, List.take_append_drop]
  have h2 : badS l[k] = true := by simp [badS, hb]
  have h3 := find_no h
  generalize l[k] = x at *
  rw [e, List.find?_append, h3, List.find?_cons_of_pos h2]
  rfl
theorem line_take (l : List StepV) (k : Nat) (h : k < l.length) : (l.take (k + 1)).flatMap lineB = (l.take k).flatMap lineB ++ lineB l[k] := by
  rw [List.take_add_one, List.getElem?_eq_getElem h, List.flatMap_append]; simp
theorem zero_take {l : List StepV} {k : Nat} (h : ∀ x ∈ l.take k, (putS x).2 = 0) (hk : k < l.length) (h0 : (putS l[k]).2 = 0) : ∀ x ∈ l.take (k + 1), (putS x).2 = 0 := by
  rw [List.take_add_one, List.getElem?_eq_getElem hk]
  intro x hx
  rcases List.mem_append.1 hx with hx | hx
  · exact h x hx
  · simp only [Option.toList_some, List.mem_singleton] at hx; rw [hx]; exact h0
def RetP (w : World) (x : List UInt8 × Int) (e : Ending) (w' : World) : Prop := e = .returned (.tuple #[.string ⟨x.1.toArray⟩, .int .i64 x.2]) ∧ Below w.heap.size w w'
set_option maxHeartbeats 1000000 in
theorem scPrint_c {w : World} {ok : Nat → Prop} {A : Option Addr} {n c : Nat} {ls : List StepV} (h : Sl w ok (.slice A n c) ls) :
    Calls Tryd.prog 30 #[.slice A n c] w (RetP w (printV ls)) := by
  have hn := h.len
  refine scPrint_sx _ (fun _ => False) w A n c ⟨fun hgt => ⟨by rw [printV, if_pos (by omega)], Below.refl _ _⟩, fun hle => ?_⟩
  intro g3 hg3
  refine ⟨fun _ _ i _ _ _ _ w' => ∃ k : Nat, i = (k : Int) ∧ k ≤ ls.length ∧ (∀ x ∈ ls.take k, (putS x).2 = 0) ∧ Bd g3 ((ls.take k).flatMap lineB) w', fun _ _ i _ _ _ _ _ => (n - i : Int).toNat, ?_, ?_⟩
  · intro w1 f1 b1 lo3 t3
    exact ⟨0, rfl, Nat.zero_le _, by simp, Bd.new t3⟩
  rintro s4 i5 _ v7 A8 n9 n10 w2 f2 ⟨k, rfl, hk, hz, r⟩ t3
  have hll := lines_len hz
  rw [List.length_take] at hll
  refine ⟨fun hlt => ?_, fun hge _ => ?_⟩
  · have hlt' : k < ls.length := by omega
    obtain ⟨p, o, A1, n1, c1, hA, hc, hs⟩ := step_at (h.below (fr_below f2)) k hlt'
    refine ⟨by omega, hlt, p, o, hA, _, _, _, _, A1, n1, c1, hc, fun g20 hg20 w3 f3 b3 lo20 t20 => ?_⟩
    have n20 : Nb g3 w3 g20 := new_nb (w0 := w2) r.lt lo20 t20 (by decide)
    refine (scPut_c ls[k] (hs.below b3)).mono ?_
    rintro e w4 ⟨A21, n22, n23, rfl, o4, b4⟩
    have f4 := f3.step b4
    refine ⟨A21, n22, n23, _, rfl, ok_ret b4 f3, fun hne => ⟨?_, fr_below f4⟩, fun h0 => ?_⟩
    · rw [printV, if_neg (by omega), find_at hz hlt' hne]
    · have hp := putS_len h0
      refine (written_c o4.sl (by rw [o4.sl.len]; omega)).mono ?_
      rintro e w5 ⟨rfl, b5⟩
      have f5 := f4.step b5
      have r5 := ((r.below b3).below b4).below b5
      refine ⟨_, rfl, ok_ret b5 f4, _, cat_c _ [10] (by rw [hexB_len]; simp; omega), fun _ => ?_⟩
      refine (bWriteString_c r5 (lineB ls[k]) (by omega) (by have := line_len h0; omega)).mono ?_
      rintro e w6 ⟨rfl, r6⟩
      obtain ⟨v29, A30, n31, n32, t6, o29⟩ := r6.wr.cells
      refine ⟨_, _, v29, A30, n31, n32, rfl, ⟨r6.fr hg3 f5, r6.mild ((Nbs.nil _ _).cons ((n20.below b4).below b5))⟩, t6, o29, ⟨k + 1, by rw [wrap_in (by omega)]; rfl, hlt', zero_take hz hlt' h0, ?_⟩, by dsimp only; rw [wrap_in (by omega)]; omega⟩
      rw [line_take ls k hlt']
      exact r6.wr
  · refine (bString_c r).mono ?_
    rintro e w3 ⟨rfl, r3⟩
    obtain ⟨v10, A11, n12, n13, t4, o10⟩ := r3.wr.cells
    refine ⟨_, v10, A11, n12, n13, rfl, ⟨r3.fr hg3 f2, r3.mild (Nbs.nil _ _)⟩, t4, o10, ?_⟩
    rw [List.take_of_length_le (by omega)] at hz ⊢
    exact ⟨by rw [printV, if_neg (by omega), find_no hz], fr_below (r3.fr hg3 f2)⟩
set_option maxHeartbeats 1000000 in
theorem refScPrint_c {w : World} {ok : Nat → Prop} {A : Option Addr} {n c : Nat} {ls : List StepV} (h : Sl w ok (.slice A n c) ls) :
    Calls Tryd.prog 31 #[.slice A n c] w (RetP w (printV ls)) := by
  have hn := h.len
  refine refScPrint_sx _ (fun _ => False) w A n c ⟨fun hgt => ⟨by rw [printV, if_pos (by omega)], Below.refl _ _⟩, fun hle => ?_⟩
  refine ⟨fun _ _ s i w' => ∃ k : Nat, i = (k : Int) ∧ k ≤ ls.length ∧ (∀ x ∈ ls.take k, (putS x).2 = 0) ∧ s = ⟨((ls.take k).flatMap lineB).toArray⟩, fun _ _ _ i _ => (n - i : Int).toNat, ⟨0, rfl, Nat.zero_le _, by simp, rfl⟩, ?_⟩
  rintro s3 i4 _ _ w1 f1 ⟨k, rfl, hk, hz, rfl⟩
  have hll := lines_len hz
  rw [List.length_take] at hll
  refine ⟨fun hlt => ?_, fun hge => ?_⟩
  · have hlt' : k < ls.length := by omega
    obtain ⟨p, o, A1, n1, c1, hA, hc, hs⟩ := step_at (h.below (fr_below f1)) k hlt'
    refine ⟨by omega, hlt, p, o, hA, _, _, _, _, A1, n1, c1, hc, ?_⟩
    refine (refScPut_c ls[k] hs).mono ?_
    rintro e w2 ⟨A16, n17, n18, rfl, o2, b2⟩
    have f2 := f1.step b2
    refine ⟨A16, n17, n18, _, rfl, ok_ret b2 f1, fun hne => ⟨?_, fr_below f2⟩, fun h0 => ?_⟩
    · rw [printV, if_neg (by omega), find_at hz hlt' hne]
    · have hp := putS_len h0
      refine (digits_c o2.sl (by rw [o2.sl.len]; omega)).mono ?_
      rintro e w3 ⟨rfl, b3⟩
      have hx := hexB_len (putS ls[k]).1
      refine ⟨_, rfl, ok_ret b3 f2, _, cat_c _ _ (by omega), _, cat_c _ [10] (by simp only [List.length_append, List.length_singleton]; omega), ⟨k + 1, by rw [wrap_in (by omega)]; rfl, hlt', zero_take hz hlt' h0, ?_⟩, by dsimp only; rw [wrap_in (by omega)]; omega⟩
      rw [line_take ls k hlt', lineB, List.append_assoc]
  · rw [List.take_of_length_le (by omega)] at hz ⊢
    exact ⟨by rw [printV, if_neg (by omega), find_no hz], fr_below f1⟩
theorem round_c (w : World) : Calls Tryd.prog 50 #[] w (Ret (.string ⟨(hexB (headB 11 0 0 0)).toArray⟩) w) := by
  have key : ∀ k : Nat, (⟨#[48, 48, 48, 48, 48, 48, 48, 48, 48, 48, 48, 48, 48, 48, 48, 98]⟩ : ByteArray) = ⟨([48, 48, 48, 48, 48, 48, 48, 48, 48, 48, 48, 48, 48, 48, 48, 98] : List UInt8).toArray⟩ := fun _ => rfl
  refine round_sx _ (fun _ => False) w ⟨fun s i w' => ∃ k : Nat, i = (k : Int) ∧ k ≤ 48 ∧ s = ⟨(([48, 48, 48, 48, 48, 48, 48, 48, 48, 48, 48, 48, 48, 48, 48, 98] : List UInt8) ++ List.replicate k 48).toArray⟩, fun _ i _ => (48 - i : Int).toNat, ⟨0, rfl, by decide, rfl⟩, ?_⟩
  rintro _ _ w1 f1 ⟨k, rfl, hk, rfl⟩
  refine ⟨fun hlt => ⟨_, cat_c _ [48] (by simp; omega), ⟨k + 1, by rw [wrap_in (by omega)]; rfl, by omega, ?_⟩, by dsimp only; rw [wrap_in (by omega)]; omega⟩, fun hge => ?_⟩
  · rw [List.append_assoc, ← List.replicate_succ']
  · obtain rfl : k = 48 := by omega
    exact ret_leaf f1 (by rw [show hexB (headB 11 0 0 0) = [48, 48, 48, 48, 48, 48, 48, 48, 48, 48, 48, 48, 48, 48, 48, 98] ++ List.replicate 48 48 by decide])
theorem shown23_c (w : World) : Calls Tryd.prog 23 #[] w (Ret (.bool true) w) := by
  refine shown23_sx _ (fun _ => False) w ?_
  intro g0 hg0 w1 f1 b1 lo0 t0
  have s1 := one_step (x := (11, 0, 0, 0, [])) (by unfold rngs; decide) t0 (Sl.nil0 w1 (nT w1))
  refine (scPrint_c s1).mono ?_
  rintro e w2 ⟨rfl, b2⟩
  have f2 := f1.step b2
  have hp : printV [(11, 0, 0, 0, [])] = (hexB (headB 11 0 0 0) ++ [10], 0) := by decide
  rw [hp]
  refine ⟨_, _, rfl, ok_ret b2 f1, ?_⟩
  refine (round_c w2).mono ?_
  rintro e w3 ⟨rfl, b3⟩
  refine ⟨_, rfl, ok_ret b3 f2, _, cat_c _ [10] (by rw [hexB_len, headB_len]; decide), fun _ => ret_leaf (f2.step b3) rfl, fun hne => absurd rfl hne⟩
end Go.Proofs.YtfjenamomipmdaaDoor
