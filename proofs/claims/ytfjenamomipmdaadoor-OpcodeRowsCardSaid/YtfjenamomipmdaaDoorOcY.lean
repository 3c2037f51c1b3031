/- Opcode: what the writer's methods write; Put. -/
import Derived.Test.YtfjenamomipmdaaDoorOcW
set_option linter.unusedSimpArgs false
set_option linter.unusedVariables false
namespace Go.Proofs.YtfjenamomipmdaaDoor
open Go Go.RowKit Go.Proofs Go.Trc Go.Sx
/-- A block that no writer turns. -/
def Nb (b : Nat) (w : World) (g : Nat) : Prop := g ≠ b ∧ ∃ c t fz, w.heap[g]? = some (.cells c t fz) ∧ t ≠ 5
theorem Nb.below {b g : Nat} {w w' : World} (h : Nb b w g) (k : Below w.heap.size w w') : Nb b w' g := by
  obtain ⟨h1, c, t, fz, h2, h3⟩ := h
  exact ⟨h1, c, t, fz, (k.block g (heap_lt h2)).trans h2, h3⟩
theorem Wrote.kept {b : Nat} {xs : List UInt8} {w w' : World} (h : Wrote b xs w w') {g : Nat} {c : Array Value} {t : TypeId} {fz : Nat × Nat} (hg : w.heap[g]? = some (.cells c t fz)) (hb : g ≠ b) (ht : t ≠ 5) : w'.heap[g]? = some (.cells c t fz) :=
  h.oth g _ hg (fun hh => hb (by injection hh)) fun c' fz' hc => ht (by injection hc)
theorem Nb.wrote {b g : Nat} {xs : List UInt8} {w w' : World} (h : Nb b w g) (k : Wrote b xs w w') : Nb b w' g := by
  obtain ⟨h1, c, t, fz, h2, h3⟩ := h
  exact ⟨h1, c, t, fz, k.kept h2 h1 h3, h3⟩
def Nbs (b : Nat) (w : World) (G : List Nat) : Prop := ∀ g ∈ G, Nb b w g
theorem Nbs.nil (b : Nat) (w : World) : Nbs b w [] := fun _ h => by cases h
theorem Nbs.cons {b g : Nat} {w : World} {G : List Nat} (h : Nbs b w G) (n : Nb b w g) : Nbs b w (g :: G) := fun k hk => by
  rcases List.mem_cons.1 hk with rfl | hk
  · exact n
  · exact h k hk
theorem Nbs.below {b : Nat} {w w' : World} {G : List Nat} (h : Nbs b w G) (k : Below w.heap.size w w') : Nbs b w' G := fun g hg => (h g hg).below k
theorem Nbs.wrote {b : Nat} {xs : List UInt8} {w w' : World} {G : List Nat} (h : Nbs b w G) (k : Wrote b xs w w') : Nbs b w' G := fun g hg => (h g hg).wrote k
def WR (b : Nat) (xs : List UInt8) (w : World) (e : Ending) (w' : World) : Prop := e = .returned (.tuple #[]) ∧ Wrote b xs w w'
theorem new_nb {b g : Nat} {w0 w : World} {c : Array Value} {t : TypeId} {fz : Nat × Nat} (hb : b < w0.heap.size) (h : w0.heap.size ≤ g) (hg : w.heap[g]? = some (.cells c t fz)) (ht : t ≠ 5) : Nb b w g := ⟨by omega, c, t, fz, hg, ht⟩
theorem wrote_ok {b : Nat} {xs : List UInt8} {w0 w w' : World} {G : List Nat} (h : Wrote b xs w w') (f : Fr (FS b w0) w0 w) (hG : ∀ g ∈ G, Nb b w g) : Fr (FS b w0) w0 w' ∧ Mild G w w' := ⟨h.fr f, h.mild hG⟩
def idsB (l : List IDV) : List UInt8 := l.flatMap fun x => idB x.s x.n
theorem idsB_len : ∀ l : List IDV, (idsB l).length = 4 * l.length
  | [] => rfl
  | x :: l => by show (idB x.s x.n ++ idsB l).length = _; rw [List.length_append, idsB_len l, List.length_cons]; show 4 + _ = _; omega
theorem ids_take (l : List IDV) (k : Nat) (h : k < l.length) : idsB (l.take (k + 1)) = idsB (l.take k) ++ idB l[k].s l[k].n := by
  unfold idsB; rw [List.take_add_one, List.getElem?_eq_getElem h, List.flatMap_append]; simp
set_option maxHeartbeats 1000000 in
theorem wids_c {b g n : Nat} {xs : List UInt8} {w : World} (h : Wr b xs w) (hl : xs.length ≤ 100000) (ids : List IDV) (hn : n = ids.length) (hn2 : n ≤ 100) (hg : w.heap[g]? = some (.cells (ids.flatMap Fixed.cells).toArray 33 (0, 0))) (hgb : g ≠ b)
    (hid : ∀ x ∈ ids, 0 ≤ x.n ∧ x.n ≤ 9223372036854775807) :
    Calls Tryd.prog 65 #[.pointer (some ⟨b, 0, none⟩), .slice (some ⟨g, 0, none⟩) n n] w (WR b (xs ++ idsB ids) w) := by
  have hb := h.lt
  refine wids_sx _ (FS b w) w _ _ _ _ ⟨fun i w1 => ∃ k : Nat, i = (k : Int) ∧ k ≤ ids.length ∧ Wrote b (xs ++ idsB (ids.take k)) w w1, fun i _ => (n - i : Int).toNat, ⟨0, rfl, Nat.zero_le _, by simpa [idsB] using Wrote.start h⟩, ?_⟩
  rintro _ w1 f1 ⟨k, rfl, hk, r⟩
  refine ⟨fun hlt => ?_, fun hge => ?_⟩
  · have hlt' : k < ids.length := by omega
    have hg1 := r.kept hg hgb (by decide)
    have s1 : Sl w1 (fun _ => True) (.slice (some ⟨g, 0, none⟩) n n) ids := (OwnF.cells ids n hn (Nat.zero_le g) hg1 (by unfold maxLen; omega) (fun _ _ => trivial)).to fun _ _ => trivial
    have hc := Sl.at_k s1 k hlt'
    have hi := hid _ (List.getElem_mem hlt')
    refine ⟨by omega, hlt, g, 0, rfl, _, _, hc, ?_⟩
    intro g9 hg9 w2 f2 b2 lo9 t9
    refine ⟨b, 0, rfl, fun w3 f3 b3 => ?_⟩
    refine (identPut_c w3 ids[k].s ids[k].n hi).mono ?_
    rintro e w4 ⟨A13, n14, n15, rfl, o4, b4⟩
    have f4 := f3.step b4
    have r4 := ((r.step b2).step b3).step b4
    have lt3 : b < w3.heap.size := Nat.lt_of_lt_of_le hb f3.size
    have s4 : Sl w4 (fun k => k ≠ b) (.slice A13 n14 n15) (idB ids[k].s ids[k].n) := o4.sl.weaken fun k hk _ => by omega
    have nb9 : Nb b w4 g9 := (Nb.below (new_nb hb hg9 t9 (by decide)) b3).below b4
    refine ⟨A13, n14, n15, rfl, ok_ret b4 f3, ?_⟩
    refine (write_c r4.wr (by rw [List.length_append, idsB_len, List.length_take]; omega) s4 (by rw [idB_len]; decide) (by rw [idB_len]; decide)).mono ?_
    rintro e w5 ⟨rfl, r5⟩
    refine ⟨_, _, rfl, wrote_ok r5 f4 ((Nbs.nil _ _).cons nb9), ⟨k + 1, by rw [wrap_in (by omega)]; rfl, hlt', ?_⟩, by dsimp only; rw [wrap_in (by omega)]; omega⟩
    rw [ids_take ids k hlt', ← List.append_assoc]
    exact r4.trans r5
  · rw [List.take_of_length_le (by omega)] at r
    exact ⟨rfl, r⟩
theorem wflag_c {b : Nat} {xs : List UInt8} {w : World} (h : Wr b xs w) (hl : xs.length ≤ 100000) (x : Bool) :
    Calls Tryd.prog 67 #[.pointer (some ⟨b, 0, none⟩), .bool x] w (WR b (xs ++ [flagB x]) w) := by
  refine wflag_sx _ (FS b w) w _ x ⟨fun hx => ⟨b, 0, rfl, ?_⟩, fun hx => ⟨b, 0, rfl, ?_⟩⟩
  · subst hx
    refine (writeByte_c h (1 : UInt8) (by omega)).mono ?_
    rintro e w1 ⟨rfl, r⟩
    exact ⟨_, rfl, wrote_ok r (Fr.refl _ _) (by simp), rfl, r⟩
  · subst hx
    refine (writeByte_c h (0 : UInt8) (by omega)).mono ?_
    rintro e w1 ⟨rfl, r⟩
    exact ⟨_, rfl, wrote_ok r (Fr.refl _ _) (by simp), rfl, r⟩
theorem id_cells (s n : Int) : ([(⟨s, n⟩ : IDV)]).flatMap Fixed.cells = [.int .i64 s, .int .i64 n] := rfl
set_option maxHeartbeats 1000000 in
theorem wcorner_c {b : Nat} {xs : List UInt8} {w : World} (h : Wr b xs w) (hl : xs.length ≤ 90000) (a1 a2 a3 a4 a5 : Int) (h2 : 0 ≤ a2 ∧ a2 ≤ 9223372036854775807) (h4 : 0 ≤ a4 ∧ a4 ≤ 9223372036854775807) (h5 : 0 ≤ a5 ∧ a5 ≤ 1) :
    Calls Tryd.prog 66 #[.pointer (some ⟨b, 0, none⟩), .agg #[.int .i64 a1, .int .i64 a2, .int .i64 a3, .int .i64 a4, .int .i64 a5]] w (WR b (xs ++ cornB a1 a2 a3 a4 a5) w) := by
  have hb := h.lt
  refine wcorner_sx _ (FS b w) w _ a1 a2 a3 a4 a5 ?_
  intro g6 hg6 g7 hg7 w1 f1 b1 lo7 t7 lo6 t6
  have r1 := (Wrote.start h).step b1
  have n6 : Nb b w1 g6 := new_nb hb hg6 t6 (by decide)
  have n7 : Nb b w1 g7 := new_nb hb hg7 t7 (by decide)
  have N1 := ((Nbs.nil b w1).cons n6).cons n7
  refine (wids_c r1.wr (by omega) [⟨a1, a2⟩] rfl (by simp) t7 n7.1 (by simp only [List.mem_singleton]; rintro _ rfl; exact h2)).mono ?_
  rintro e w2 ⟨rfl, r2⟩
  have f2 := r2.fr f1
  have p1 : (idsB [⟨a1, a2⟩]) = idB a1 a2 := by simp [idsB]
  rw [p1] at r2
  refine ⟨rfl, wrote_ok r2 f1 N1, _, eql_dart .., fun hx => ⟨b, 0, rfl, ?_⟩, fun hx => ⟨b, 0, rfl, fun w3 f3 b3 => ?_⟩⟩
  · refine (writeByte_c r2.wr (0 : UInt8) (by rw [List.length_append, idB_len]; omega)).mono ?_
    rintro e w3 ⟨rfl, r3⟩
    refine ⟨_, rfl, wrote_ok r3 f2 (N1.wrote r2), rfl, ?_⟩
    have := (r1.trans r2).trans r3
    unfold cornB; rw [if_pos (of_decide_eq_true hx), ← List.append_assoc]
    exact this
  · have r3 := r2.step b3
    rw [wrap_in (by omega), u8_wrap]
    refine (writeByte_c r3.wr (u8 (a5 + 1)) (by rw [List.length_append, idB_len]; omega)).mono ?_
    rintro e w4 ⟨rfl, r4⟩
    refine ⟨_, rfl, wrote_ok r4 f3 ((N1.wrote r2).below b3), ?_⟩
    intro g13 hg13 w5 f5 b5 lo13 t13
    have n13 : Nb b w5 g13 := new_nb hb hg13 t13 (by decide)
    have r5 := r4.step b5
    have N5 := ((((N1.wrote r2).below b3).wrote r4).below b5).cons n13
    refine (wids_c r5.wr (by rw [List.length_append, List.length_append, idB_len]; simp; omega) [⟨a3, a4⟩] rfl (by simp) t13 n13.1 (by simp only [List.mem_singleton]; rintro _ rfl; exact h4)).mono ?_
    rintro e w6 ⟨rfl, r6⟩
    have p2 : (idsB [⟨a3, a4⟩]) = idB a3 a4 := by simp [idsB]
    rw [p2] at r6
    refine ⟨rfl, wrote_ok r6 f5 N5, rfl, ?_⟩
    have := (((r1.trans r2).step b3).trans r5).trans r6
    unfold cornB; rw [if_neg (of_decide_eq_false hx)]
    have e : xs ++ (idB a1 a2 ++ u8 (a5 + 1) :: idB a3 a4) = xs ++ idB a1 a2 ++ [u8 (a5 + 1)] ++ idB a3 a4 := by simp
    rw [e]
    exact this
theorem ids_one (s n : Int) : idsB [⟨s, n⟩] = idB s n := by simp [idsB]
theorem ids_two (s n s' n' : Int) : idsB [⟨s, n⟩, ⟨s', n'⟩] = idB s n ++ idB s' n' := by simp [idsB]
set_option maxHeartbeats 2000000 in
theorem wop_c {b : Nat} {xs : List UInt8} {w : World} (h : Wr b xs w) (hl : xs.length ≤ 80000) (o : OpV) (hg : Good o) :
    Calls Tryd.prog 37 #[.pointer (some ⟨b, 0, none⟩), .agg o.cells] w (WR b (xs ++ opB o) w) := by
  have hb := h.lt
  have hid := idOk_iff hg.id
  refine wop_sx _ (FS b w) w _ o.kd o.s o.n o.s1 o.n1 o.s2 o.n2 o.a1 o.a2 o.a3 o.a4 o.a5 o.b1 o.b2 o.b3 o.b4 o.b5 o.oe o.tx o.nn ?_
  intro g21 hg21 w1 f1 b1 lo21 t21
  refine ⟨b, 0, rfl, fun w2 f2 b2 => ?_⟩
  have r2 := ((Wrote.start h).step b1).step b2
  have N2 := ((Nbs.nil b w1).cons (new_nb hb hg21 t21 (by decide))).below b2
  rw [u8_wrap]
  refine (writeByte_c r2.wr (u8 o.kd) (by omega)).mono ?_
  rintro e w3 ⟨rfl, r3⟩
  refine ⟨_, rfl, wrote_ok r3 f2 N2, ?_⟩
  intro g26 hg26 w4 f4 b4 lo26 t26
  have r4 := r3.step b4
  have N4 := ((N2.wrote r3).below b4).cons (new_nb hb hg26 t26 (by decide))
  refine (wids_c r4.wr (by rw [one_len]; omega) [⟨o.s, o.n⟩] rfl (by simp) t26 (N4 g26 (by simp)).1 (by simp only [List.mem_singleton]; rintro _ rfl; exact (show 0 ≤ o.n ∧ o.n ≤ 9223372036854775807 from ⟨by omega, by omega⟩))).mono ?_
  rintro e w5 ⟨rfl, r5⟩
  rw [ids_one] at r5
  have f5 := r5.fr f4
  have N5 := N4.wrote r5
  have R5 := (r2.trans r4).trans r5
  have fin : ∀ (w' : World) (ys : List UInt8), Wrote b (xs ++ [u8 o.kd] ++ idB o.s o.n ++ ys) w w' → ys = restB o → WR b (xs ++ opB o) w (.returned (.tuple #[])) w' := by
    rintro w' ys k rfl
    refine ⟨rfl, ?_⟩
    have e : xs ++ opB o = xs ++ [u8 o.kd] ++ idB o.s o.n ++ restB o := by simp [opB]
    rw [e]; exact k
  have hl5 : (xs ++ [u8 o.kd] ++ idB o.s o.n).length ≤ 80005 := by rw [List.length_append, one_len, idB_len]; omega
  refine ⟨rfl, wrote_ok r5 f4 N4, ?_⟩
  generalize xs ++ [u8 o.kd] ++ idB o.s o.n = P at R5 r5 fin hl5
  refine ⟨fun h3 => ?_, fun h3 => ⟨fun h5 => ?_, fun h5 => ⟨fun h6 => ?_, fun h6 => ⟨fun h7 => ?_, fun h7 => ⟨fun h8 => ?_, fun h8 => ?_⟩⟩⟩⟩⟩
  · obtain ⟨k1, k2⟩ := hg.k3 h3
    have q1 := corner_iff k1
    have q2 := corner_iff k2
    refine (wcorner_c r5.wr (by omega) _ _ _ _ _ ⟨by omega, by omega⟩ ⟨by omega, by omega⟩ ⟨by omega, by omega⟩).mono ?_
    rintro e w6 ⟨rfl, r6⟩
    have cl := cornB_len o.a1 o.a2 o.a3 o.a4 o.a5
    refine ⟨rfl, wrote_ok r6 f5 N5, ?_⟩
    refine (wcorner_c r6.wr (by rw [List.length_append]; omega) _ _ _ _ _ ⟨by omega, by omega⟩ ⟨by omega, by omega⟩ ⟨by omega, by omega⟩).mono ?_
    rintro e w7 ⟨rfl, r7⟩
    refine ⟨rfl, wrote_ok r7 (r6.fr f5) (N5.wrote r6), fin w7 _ ?_ (by unfold restB; rw [if_pos h3])⟩
    have k := (R5.trans r6).trans r7
    rw [List.append_assoc] at k
    exact k
  · obtain ⟨k1, k2, k3, k4⟩ := hg.k5 h5
    have q1 := idOk_iff k1
    have q2 := idOk_iff k2
    intro g27 hg27 w6 f6 b6 lo27 t27
    have r6 := r5.step b6
    have N6 := (N5.below b6).cons (new_nb hb hg27 t27 (by decide))
    refine (wids_c r6.wr (by omega) [⟨o.s1, o.n1⟩, ⟨o.s2, o.n2⟩] rfl (by simp) t27 (N6 g27 (by simp)).1 (by
      intro x hx
      simp only [List.mem_cons, List.not_mem_nil, or_false] at hx
      rcases hx with rfl | rfl
      · exact (show 0 ≤ o.n1 ∧ o.n1 ≤ 9223372036854775807 from ⟨by omega, by omega⟩)
      · exact (show 0 ≤ o.n2 ∧ o.n2 ≤ 9223372036854775807 from ⟨by omega, by omega⟩))).mono ?_
    rintro e w7 ⟨rfl, r7⟩
    rw [ids_two] at r7
    refine ⟨rfl, wrote_ok r7 f6 N6, b, 0, rfl, fun w8 f8 b8 => ?_⟩
    have r8 := r7.step b8
    rw [u8_wrap]
    refine (writeByte_c r8.wr (u8 o.nn) (by rw [List.length_append, List.length_append, idB_len, idB_len]; omega)).mono ?_
    rintro e w9 ⟨rfl, r9⟩
    refine ⟨_, rfl, wrote_ok r9 f8 ((N6.wrote r7).below b8), fin w9 _ ?_ (by unfold restB; rw [if_neg h3, if_pos h5])⟩
    have k := ((R5.step b6).trans r8).trans r9
    simp only [List.append_assoc] at k ⊢
    exact k
  · have q1 := idOk_iff (hg.k6 h6)
    intro g27 hg27 w6 f6 b6 lo27 t27
    have r6 := r5.step b6
    have N6 := (N5.below b6).cons (new_nb hb hg27 t27 (by decide))
    refine (wids_c r6.wr (by omega) [⟨o.s2, o.n2⟩] rfl (by simp) t27 (N6 g27 (by simp)).1 (by simp only [List.mem_singleton]; rintro _ rfl; exact (show 0 ≤ o.n2 ∧ o.n2 ≤ 9223372036854775807 from ⟨by omega, by omega⟩))).mono ?_
    rintro e w7 ⟨rfl, r7⟩
    rw [ids_one] at r7
    exact ⟨rfl, wrote_ok r7 f6 N6, fin w7 _ ((R5.step b6).trans r7) (by unfold restB; rw [if_neg h3, if_neg h5, if_pos h6])⟩
  · refine (wflag_c r5.wr (by omega) o.oe).mono ?_
    rintro e w6 ⟨rfl, r6⟩
    refine ⟨rfl, wrote_ok r6 f5 N5, b, 0, rfl, fun w7 f7 b7 => ?_⟩
    have hs := label_size (hg.k7 h7)
    refine (packText_c w7 o.tx (by omega)).mono ?_
    rintro e w8 ⟨A8, n8, c8, rfl, o8, b8⟩
    refine ⟨A8, n8, c8, rfl, ok_ret b8 f7, ?_⟩
    have r8 := (r6.step b7).step b8
    have lt7 : b < w7.heap.size := Nat.lt_of_lt_of_le hb f7.size
    have ht : (textB o.tx).length = o.tx.size + 1 := by simp [textB]
    refine (write_c r8.wr (by rw [one_len]; omega) (o8.sl.weaken fun k hk _ => by omega) (by omega) (by omega)).mono ?_
    rintro e w9 ⟨rfl, r9⟩
    refine ⟨_, _, rfl, wrote_ok r9 (f7.step b8) (((N5.wrote r6).below b7).below b8), fin w9 _ ?_ (by unfold restB; rw [if_neg h3, if_neg h5, if_neg h6, if_pos h7])⟩
    have k := (R5.trans r8).trans r9
    simpa using k
  · refine (wflag_c r5.wr (by omega) o.oe).mono ?_
    rintro e w6 ⟨rfl, r6⟩
    refine ⟨rfl, wrote_ok r6 f5 N5, b, 0, rfl, fun w7 f7 b7 => ?_⟩
    refine (packNum_c (ok := fun _ => True) (Sl.nil0 w7 _) (by omega) o.nn).mono ?_
    rintro e w8 ⟨A8, n8, c8, rfl, o8, b8⟩
    rw [List.nil_append] at o8
    refine ⟨A8, n8, c8, rfl, ok_ret b8 f7, ?_⟩
    have r8 := (r6.step b7).step b8
    have lt7 : b < w7.heap.size := Nat.lt_of_lt_of_le hb f7.size
    refine (write_c r8.wr (by rw [one_len]; omega) (o8.sl.weaken fun k hk _ => by omega) (by rw [numB_len]; decide) (by rw [numB_len]; decide)).mono ?_
    rintro e w9 ⟨rfl, r9⟩
    refine ⟨_, _, rfl, wrote_ok r9 (f7.step b8) (((N5.wrote r6).below b7).below b8), fin w9 _ ?_ (by unfold restB; rw [if_neg h3, if_neg h5, if_neg h6, if_neg h7, if_pos h8])⟩
    have k := (R5.trans r8).trans r9
    simpa using k
  · exact fin w5 [] (by simpa using R5) (by unfold restB; rw [if_neg h3, if_neg h5, if_neg h6, if_neg h7, if_neg h8])
end Go.Proofs.YtfjenamomipmdaaDoor
