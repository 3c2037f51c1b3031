/- Opcode: the writer, on the library's contracts of bytes.Buffer. -/
import Derived.Test.YtfjenamomipmdaaDoorPkB
import Derived.Test.YtfjenamomipmdaaDoorSh
set_option linter.unusedSimpArgs false
set_option linter.unusedVariables false
namespace Go.Proofs.YtfjenamomipmdaaDoor
open Go Go.RowKit Go.Proofs Go.Trc Go.Sx
abbrev bcs (xs : List UInt8) : List Value := xs.flatMap Fixed.cells
theorem bcs_len (xs : List UInt8) : (bcs xs).length = xs.length := by rw [bcs, flat_bytes]; simp
/-- Block b is a writer that holds xs; its row is not older. -/
def Wr (b : Nat) (xs : List UInt8) (w : World) : Prop := LibA.IsBuffer 73 (fun _ => none) 5 b b 0 (bcs xs) w
/-- What a writer turns. -/
def FS (b : Nat) (w0 : World) (k : Nat) : Prop := b ≤ k ∧ (k = b ∨ ∃ cs fz, w0.heap[k]? = some (.cells cs 5 fz))
structure Wrote (b : Nat) (xs : List UInt8) (w w' : World) : Prop where
  wr : Wr b xs w'
  low : Below b w w'
  oth : Lib.OthersKept 5 (some b) w w'
theorem Wrote.trans {b : Nat} {xs ys : List UInt8} {w w1 w2 : World} (h : Wrote b xs w w1) (k : Wrote b ys w1 w2) : Wrote b ys w w2 := ⟨k.wr, h.low.trans k.low, h.oth.trans k.oth⟩
theorem Wr.lt {b : Nat} {xs : List UInt8} {w : World} (h : Wr b xs w) : b < w.heap.size := LibA.IsBuffer.lt h
theorem Wr.below {b : Nat} {xs : List UInt8} {w w' : World} (h : Wr b xs w) (k : Below w.heap.size w w') : Wr b xs w' := LibA.IsBuffer.old h k
theorem Wrote.step {b : Nat} {xs : List UInt8} {w w1 w2 : World} (h : Wrote b xs w w1) (k : Below w1.heap.size w1 w2) : Wrote b xs w w2 :=
  ⟨h.wr.below k, h.low.trans (k.mono (Nat.le_of_lt h.wr.lt)), h.oth.below k⟩
theorem Wrote.start {b : Nat} {xs : List UInt8} {w : World} (h : Wr b xs w) : Wrote b xs w w := ⟨h, Below.refl _ _, Lib.OthersKept.refl _ _ _⟩
/-- As the trees ask it. -/
theorem Wrote.fr {b : Nat} {xs : List UInt8} {w0 w w' : World} (h : Wrote b xs w w') (f : Fr (FS b w0) w0 w) : Fr (FS b w0) w0 w' := by
  refine ⟨h.low.os.trans f.os, h.low.tape.trans f.tape, h.low.output.trans f.output, Nat.le_trans f.size h.low.size, fun k hk hn => ?_⟩
  have e := f.block k hk hn
  rw [← e]
  rcases Nat.lt_or_ge k b with hb | hb
  · exact h.low.block k hb
  · have hkb : k ≠ b := fun hh => hn ⟨hb, .inl hh⟩
    have hlt : k < w.heap.size := Nat.lt_of_lt_of_le hk f.size
    rw [Array.getElem?_eq_getElem hlt]
    refine h.oth k _ (Array.getElem?_eq_getElem hlt) (fun hh => hkb (by injection hh)) fun c fz hc => hn ⟨hb, .inr ⟨c, fz, ?_⟩⟩
    rw [← e, Array.getElem?_eq_getElem hlt, hc]
theorem Wrote.mild {b : Nat} {xs : List UInt8} {w w' : World} (h : Wrote b xs w w') {G : List Nat} (hG : ∀ g ∈ G, g ≠ b ∧ ∃ c t fz, w.heap[g]? = some (.cells c t fz) ∧ t ≠ 5) : Mild G w w' := by
  refine ⟨h.low.size, fun g hg _ => ?_⟩
  obtain ⟨h1, c, t, fz, h2, h3⟩ := hG g hg
  rw [h2]
  exact h.oth g _ h2 (fun hh => h1 (by injection hh)) fun c' fz' hc => h3 (by injection hc)
theorem Wrote.of {b : Nat} {xs : List UInt8} {w w' : World} (h : Wr b xs w') (hb : b < w.heap.size) (f : Fr (FS b w) w w') : Wrote b xs w w' := by
  refine ⟨h, ⟨f.os, f.tape, f.output, f.size, fun k hk => f.block k (by omega) fun hn => by have := hn.1; omega⟩, fun k o hk hkb ho => ?_⟩
  have hlt := heap_lt hk
  rw [f.block k hlt fun hn => ?_]
  · exact hk
  · rcases hn.2 with h1 | ⟨c, fz, h1⟩
    · exact hkb (by rw [h1])
    · rw [hk] at h1; injection h1 with h1; exact ho c fz h1
theorem one_cells (x : UInt8) : bcs [x] = [.int .u8 (x.toNat : Int)] := rfl
theorem bcs_one (xs : List UInt8) : ∀ v ∈ bcs xs, v.oneCell' = true := flat_one fun _ _ => trivial
theorem writeByte_c {b : Nat} {xs : List UInt8} {w : World} (h : Wr b xs w) (x : UInt8) (hl : xs.length ≤ 1000000) :
    Calls Tryd.prog 36 #[.pointer (some ⟨b, 0, none⟩), .int .u8 (x.toNat : Int)] w fun e w' => e = .returned .nilIface ∧ Wrote b (xs ++ [x]) w w' := by
  refine (Tryd.Buffer_WriteByte_at 73 (fun _ => none) b b 0 (bcs xs) (x.toNat : Int) w h (Nat.le_of_lt h.lt) (bcs_one xs) (by rw [bcs_len]; omega)).mono ?_
  rintro e w' ⟨rfl, h1, h2, h3⟩
  refine ⟨rfl, ?_, h2, h3⟩
  show LibA.IsBuffer _ _ _ _ _ _ (bcs (xs ++ [x])) w'
  rw [bcs, List.flatMap_append]
  exact h1
theorem write_c {b : Nat} {xs ys : List UInt8} {w : World} {A : Option Addr} {n c : Nat} (h : Wr b xs w) (hl : xs.length ≤ 1000000) (s : Sl w (fun k => k ≠ b) (.slice A n c) ys) (hy : 0 < ys.length) (hy2 : ys.length ≤ 1000000) :
    Calls Tryd.prog 35 #[.pointer (some ⟨b, 0, none⟩), .slice A n c] w fun e w' => e = .returned (.tuple #[.int .i64 (n : Int), .nilIface]) ∧ Wrote b (xs ++ ys) w w' := by
  have hn := s.len
  obtain ⟨g, o, rfl, hg, hc⟩ := s.at_ hy
  refine (Tryd.Buffer_Write_at 73 (fun _ => none) b b 0 (bcs xs) (bcs ys) ⟨g, o, none⟩ n c w h (Nat.le_of_lt h.lt) (bcs_one xs) (by rw [bcs_len, hn]) hg ?_ (bcs_one ys) (by rw [bcs_len]; omega)).mono ?_
  · intro j v hj
    rw [bcs, flat_bytes, List.getElem?_map] at hj
    obtain ⟨x, hx, rfl⟩ := Option.map_eq_some_iff.1 hj
    obtain ⟨hlt, rfl⟩ := List.getElem?_eq_some_iff.1 hx
    obtain ⟨cs, hK, hcc⟩ := hc j hlt
    have hK : cs = [.int .u8 (ys[j].toNat : Int)] := hK
    subst hK
    have := hcc 0 _ rfl
    rw [add_plain]
    have e : (⟨g, o + j, none⟩ : Addr) = ⟨g, o + j * Rep.sz UInt8 + 0, none⟩ := by
      show (⟨g, o + j, none⟩ : Addr) = ⟨g, o + j * 1 + 0, none⟩
      rw [Nat.mul_one]; rfl
    rw [e]
    exact this
  · rintro e w' ⟨rfl, h1, h2, h3⟩
    refine ⟨rfl, ?_, h2, h3⟩
    show LibA.IsBuffer _ _ _ _ _ _ (bcs (xs ++ ys)) w'
    rw [bcs, List.flatMap_append]
    exact h1
/-- A new one. -/
theorem Wr.new {b : Nat} {w : World} (h : w.heap[b]? = some (.cells #[.slice none 0 0, .int .i64 0, .int .i8 0] 73 (0, 0))) : Wr b [] w := LibA.zero_isBuffer (Nat.le_refl _) (LibA.three_whole h)
/-- Its cells. -/
theorem Wr.cells {b : Nat} {xs : List UInt8} {w : World} (h : Wr b xs w) : ∃ (A : Option Addr) (n c : Nat) (i j : Int), w.heap[b]? = some (.cells #[.slice A n c, .int .i64 i, .int .i8 j] 73 (0, 0)) ∧ i = 0 ∧ OwnF w b 5 (.slice A n c) xs := by
  obtain ⟨_, v, lr, ⟨cs, hb, h0, h1, h2, hr⟩, ho, _⟩ := h
  have hcs : cs = #[v, .int .i64 0, .int .i8 lr] := by
    have h3 : cs[3]? = none := hr 3 (.inr (by omega))
    have hs : cs.size = 3 := by
      have a := Array.getElem?_eq_none_iff.1 h3
      have b := (Array.getElem?_eq_some_iff.1 h2).1
      omega
    apply Array.ext
    · simpa using hs
    · intro i hi hj
      have : i = 0 ∨ i = 1 ∨ i = 2 := by omega
      rcases this with rfl | rfl | rfl
      · exact (Array.getElem?_eq_some_iff.1 h0).2
      · exact (Array.getElem?_eq_some_iff.1 h1).2
      · exact (Array.getElem?_eq_some_iff.1 h2).2
  rw [bcs_len] at ho
  have o' : OwnF w b 5 v xs := ⟨bcs xs, ho, bcs_one xs, fun j hj => by rw [bcs, flat_at xs (fun _ _ => trivial) j hj]; exact Fixed.K trivial⟩
  obtain ⟨A, c, rfl, _⟩ := Own.slice o'
  exact ⟨A, _, c, 0, lr, by rw [hb, hcs], rfl, o'⟩
end Go.Proofs.YtfjenamomipmdaaDoor


/- Opcode: what the writer's methods write; Put. -/
set_option linter.unusedSimpArgs false
set_option linter.unusedVariables false
namespace Go.Proofs.YtfjenamomipmdaaDoor
open Go Go.RowKit Go.Proofs Go.Trc Go.Sx
/-- A block that no writer turns. -/
def Nb (b : Nat) (w : World) (g : Nat) : Prop := g ≠ b ∧ ∃ c t fz, w.heap[g]? = some (.cells c t fz) ∧ t ≠ 5
theorem Nb.below {b g : Nat} {w w' : World} (h : Nb b w g) (k : Below w.heap.size w w') : Nb b w' g := by
  obtain ⟨h1, c, t, fz, h2, h3⟩ := h
  exact ⟨h1, c, t, fz, (k.block g (heap_lt h2)).trans h2, h3⟩
theorem Wrote.kept {b : Nat} {xs : List UInt8} {w w' : World} (h : Wrote b xs w w') {g : Nat} {c : Array Value} {t : TypeId} {fz : Nat × Nat} (hg : w.heap[g]? = some (.cells c t fz)) (hb : g ≠ b) (ht : t ≠ 5) : w'.heap[g]? = some (.cells c t fz) :=
  h.oth g _ hg (fun hh => hb (by injection hh)) fun c' fz' hc => ht (by injection hc)
theorem Nb.wrote {b g : Nat} {xs : List UInt8} {w w' : World} (h : Nb b w g) (k : Wrote b xs w w') : Nb b w' g := by
  obtain ⟨h1, c, t, fz, h2, h3⟩ := h
  exact ⟨h1, c, t, fz, k.kept h2 h1 h3, h3⟩
def Nbs (b : Nat) (w : World) (G : List Nat) : Prop := ∀ g ∈ G, Nb b w g
theorem Nbs.nil (b : Nat) (w : World) : Nbs b w [] := fun _ h => by cases h
theorem Nbs.cons {b g : Nat} {w : World} {G : List Nat} (h : Nbs b w G) (n : Nb b w g) : Nbs b w (g :: G) := fun k hk => by
  rcases List.mem_cons.1 hk with rfl | hk
  · exact n
  · exact h k hk
theorem Nbs.below {b : Nat} {w w' : World} {G : List Nat} (h : Nbs b w G) (k : Below w.heap.size w w') : Nbs b w' G := fun g hg => (h g hg).below k
theorem Nbs.wrote {b : Nat} {xs : List UInt8} {w w' : World} {G : List Nat} (h : Nbs b w G) (k : Wrote b xs w w') : Nbs b w' G := fun g hg => (h g hg).wrote k
def WR (b : Nat) (xs : List UInt8) (w : World) (e : Ending) (w' : World) : Prop := e = .returned (.tuple #[]) ∧ Wrote b xs w w'
theorem new_nb {b g : Nat} {w0 w : World} {c : Array Value} {t : TypeId} {fz : Nat × Nat} (hb : b < w0.heap.size) (h : w0.heap.size ≤ g) (hg : w.heap[g]? = some (.cells c t fz)) (ht : t ≠ 5) : Nb b w g := ⟨by omega, c, t, fz, hg, ht⟩
theorem wrote_ok {b : Nat} {xs : List UInt8} {w0 w w' : World} {G : List Nat} (h : Wrote b xs w w') (f : Fr (FS b w0) w0 w) (hG : ∀ g ∈ G, Nb b w g) : Fr (FS b w0) w0 w' ∧ Mild G w w' := ⟨h.fr f, h.mild hG⟩
def idsB (l : List IDV) : List UInt8 := l.flatMap fun x => idB x.s x.n
theorem idsB_len : ∀ l : List IDV, (idsB l).length = 4 * l.length
  | [] => rfl
  | x :: l => by show (idB x.s x.n ++ idsB l).length = _; rw [List.length_append, idsB_len l, List.length_cons]; show 4 + _ = _; omega
theorem ids_take (l : List IDV) (k : Nat) (h : k < l.length) : idsB (l.take (k + 1)) = idsB (l.take k) ++ idB l[k].s l[k].n := by
  unfold idsB; rw [List.take_add_one, List.getElem?_eq_getElem h, List.flatMap_append]; simp
set_option maxHeartbeats 1000000 in
theorem wids_c {b g n : Nat} {xs : List UInt8} {w : World} (h : Wr b xs w) (hl : xs.length ≤ 100000) (ids : List IDV) (hn : n = ids.length) (hn2 : n ≤ 100) (hg : w.heap[g]? = some (.cells (ids.flatMap Fixed.cells).toArray 33 (0, 0))) (hgb : g ≠ b)
    (hid : ∀ x ∈ ids, 0 ≤ x.n ∧ x.n ≤ 9223372036854775807) :
    Calls Tryd.prog 65 #[.pointer (some ⟨b, 0, none⟩), .slice (some ⟨g, 0, none⟩) n n] w (WR b (xs ++ idsB ids) w) := by
  have hb := h.lt
  refine wids_sx _ (FS b w) w _ _ _ _ ⟨fun i w1 => ∃ k : Nat, i = (k : Int) ∧ k ≤ ids.length ∧ Wrote b (xs ++ idsB (ids.take k)) w w1, fun i _ => (n - i : Int).toNat, ⟨0, rfl, Nat.zero_le _, by simpa [idsB] using Wrote.start h⟩, ?_⟩
  rintro _ w1 f1 ⟨k, rfl, hk, r⟩
  refine ⟨fun hlt => ?_, fun hge => ?_⟩
  · have hlt' : k < ids.length := by omega
    have hg1 := r.kept hg hgb (by decide)
    have s1 : Sl w1 (fun _ => True) (.slice (some ⟨g, 0, none⟩) n n) ids := (OwnF.cells ids n hn (Nat.zero_le g) hg1 (by unfold maxLen; omega) (fun _ _ => trivial)).to fun _ _ => trivial
    have hc := Sl.at_k s1 k hlt'
    have hi := hid _ (List.getElem_mem hlt')
    refine ⟨by omega, hlt, g, 0, rfl, _, _, hc, ?_⟩
    intro g9 hg9 w2 f2 b2 lo9 t9
    refine ⟨b, 0, rfl, fun w3 f3 b3 => ?_⟩
    refine (identPut_c w3 ids[k].s ids[k].n hi).mono ?_
    rintro e w4 ⟨A13, n14, n15, rfl, o4, b4⟩
    have f4 := f3.step b4
    have r4 := ((r.step b2).step b3).step b4
    have lt3 : b < w3.heap.size := Nat.lt_of_lt_of_le hb f3.size
    have s4 : Sl w4 (fun k => k ≠ b) (.slice A13 n14 n15) (idB ids[k].s ids[k].n) := o4.sl.weaken fun k hk _ => by omega
    have nb9 : Nb b w4 g9 := (Nb.below (new_nb hb hg9 t9 (by decide)) b3).below b4
    refine ⟨A13, n14, n15, rfl, ok_ret b4 f3, ?_⟩
    refine (write_c r4.wr (by rw [List.length_append, idsB_len, List.length_take]; omega) s4 (by rw [idB_len]; decide) (by rw [idB_len]; decide)).mono ?_
    rintro e w5 ⟨rfl, r5⟩
    refine ⟨_, _, rfl, wrote_ok r5 f4 ((Nbs.nil _ _).cons nb9), ⟨k + 1, by rw [wrap_in (by omega)]; rfl, hlt', ?_⟩, by dsimp only; rw [wrap_in (by omega)]; omega⟩
    rw [ids_take ids k hlt', ← List.append_assoc]
    exact r4.trans r5
  · rw [List.take_of_length_le (by omega)] at r
    exact ⟨rfl, r⟩
theorem wflag_c {b : Nat} {xs : List UInt8} {w : World} (h : Wr b xs w) (hl : xs.length ≤ 100000) (x : Bool) :
    Calls Tryd.prog 67 #[.pointer (some ⟨b, 0, none⟩), .bool x] w (WR b (xs ++ [flagB x]) w) := by
  refine wflag_sx _ (FS b w) w _ x ⟨fun hx => ⟨b, 0, rfl, ?_⟩, fun hx => ⟨b, 0, rfl, ?_⟩⟩
  · subst hx
    refine (writeByte_c h (1 : UInt8) (by omega)).mono ?_
    rintro e w1 ⟨rfl, r⟩
    exact ⟨_, rfl, wrote_ok r (Fr.refl _ _) (by simp), rfl, r⟩
  · subst hx
    refine (writeByte_c h (0 : UInt8) (by omega)).mono ?_
    rintro e w1 ⟨rfl, r⟩
    exact ⟨_, rfl, wrote_ok r (Fr.refl _ _) (by simp), rfl, r⟩
theorem id_cells (s n : Int) : ([(⟨s, n⟩ : IDV)]).flatMap Fixed.cells = [.int .i64 s, .int .i64 n] := rfl
set_option maxHeartbeats 1000000 in
theorem wcorner_c {b : Nat} {xs : List UInt8} {w : World} (h : Wr b xs w) (hl : xs.length ≤ 90000) (a1 a2 a3 a4 a5 : Int) (h2 : 0 ≤ a2 ∧ a2 ≤ 9223372036854775807) (h4 : 0 ≤ a4 ∧ a4 ≤ 9223372036854775807) (h5 : 0 ≤ a5 ∧ a5 ≤ 1) :
    Calls Tryd.prog 66 #[.pointer (some ⟨b, 0, none⟩), .agg #[.int .i64 a1, .int .i64 a2, .int .i64 a3, .int .i64 a4, .int .i64 a5]] w (WR b (xs ++ cornB a1 a2 a3 a4 a5) w) := by
  have hb := h.lt
  refine wcorner_sx _ (FS b w) w _ a1 a2 a3 a4 a5 ?_
  intro g6 hg6 g7 hg7 w1 f1 b1 lo7 t7 lo6 t6
  have r1 := (Wrote.start h).step b1
  have n6 : Nb b w1 g6 := new_nb hb hg6 t6 (by decide)
  have n7 : Nb b w1 g7 := new_nb hb hg7 t7 (by decide)
  have N1 := ((Nbs.nil b w1).cons n6).cons n7
  refine (wids_c r1.wr (by omega) [⟨a1, a2⟩] rfl (by simp) t7 n7.1 (by simp only [List.mem_singleton]; rintro _ rfl; exact h2)).mono ?_
  rintro e w2 ⟨rfl, r2⟩
  have f2 := r2.fr f1
  have p1 : (idsB [⟨a1, a2⟩]) = idB a1 a2 := by simp [idsB]
  rw [p1] at r2
  refine ⟨rfl, wrote_ok r2 f1 N1, _, eql_dart .., fun hx => ⟨b, 0, rfl, ?_⟩, fun hx => ⟨b, 0, rfl, fun w3 f3 b3 => ?_⟩⟩
  · refine (writeByte_c r2.wr (0 : UInt8) (by rw [List.length_append, idB_len]; omega)).mono ?_
    rintro e w3 ⟨rfl, r3⟩
    refine ⟨_, rfl, wrote_ok r3 f2 (N1.wrote r2), rfl, ?_⟩
    have := (r1.trans r2).trans r3
    unfold cornB; rw [if_pos (of_decide_eq_true hx), ← List.append_assoc]
    exact this
  · have r3 := r2.step b3
    rw [wrap_in (by omega), u8_wrap]
    refine (writeByte_c r3.wr (u8 (a5 + 1)) (by rw [List.length_append, idB_len]; omega)).mono ?_
    rintro e w4 ⟨rfl, r4⟩
    refine ⟨_, rfl, wrote_ok r4 f3 ((N1.wrote r2).below b3), ?_⟩
    intro g13 hg13 w5 f5 b5 lo13 t13
    have n13 : Nb b w5 g13 := new_nb hb hg13 t13 (by decide)
    have r5 := r4.step b5
    have N5 := ((((N1.wrote r2).below b3).wrote r4).below b5).cons n13
    refine (wids_c r5.wr (by rw [List.length_append, List.length_append, idB_len]; simp; omega) [⟨a3, a4⟩] rfl (by simp) t13 n13.1 (by simp only [List.mem_singleton]; rintro _ rfl; exact h4)).mono ?_
    rintro e w6 ⟨rfl, r6⟩
    have p2 : (idsB [⟨a3, a4⟩]) = idB a3 a4 := by simp [idsB]
    rw [p2] at r6
    refine ⟨rfl, wrote_ok r6 f5 N5, rfl, ?_⟩
    have := (((r1.trans r2).step b3).trans r5).trans r6
    unfold cornB; rw [if_neg (of_decide_eq_false hx)]
    have e : xs ++ (idB a1 a2 ++ u8 (a5 + 1) :: idB a3 a4) = xs ++ idB a1 a2 ++ [u8 (a5 + 1)] ++ idB a3 a4 := by simp
    rw [e]
    exact this
theorem ids_one (s n : Int) : idsB [⟨s, n⟩] = idB s n := by simp [idsB]
theorem ids_two (s n s' n' : Int) : idsB [⟨s, n⟩, ⟨s', n'⟩] = idB s n ++ idB s' n' := by simp [idsB]
set_option maxHeartbeats 2000000 in
theorem wop_c {b : Nat} {xs : List UInt8} {w : World} (h : Wr b xs w) (hl : xs.length ≤ 80000) (o : OpV) (hg : Good o) :
    Calls Tryd.prog 37 #[.pointer (some ⟨b, 0, none⟩), .agg o.cells] w (WR b (xs ++ opB o) w) := by
  have hb := h.lt
  have hid := idOk_iff hg.id
  refine wop_sx _ (FS b w) w _ o.kd o.s o.n o.s1 o.n1 o.s2 o.n2 o.a1 o.a2 o.a3 o.a4 o.a5 o.b1 o.b2 o.b3 o.b4 o.b5 o.oe o.tx o.nn ?_
  intro g21 hg21 w1 f1 b1 lo21 t21
  refine ⟨b, 0, rfl, fun w2 f2 b2 => ?_⟩
  have r2 := ((Wrote.start h).step b1).step b2
  have N2 := ((Nbs.nil b w1).cons (new_nb hb hg21 t21 (by decide))).below b2
  rw [u8_wrap]
  refine (writeByte_c r2.wr (u8 o.kd) (by omega)).mono ?_
  rintro e w3 ⟨rfl, r3⟩
  refine ⟨_, rfl, wrote_ok r3 f2 N2, ?_⟩
  intro g26 hg26 w4 f4 b4 lo26 t26
  have r4 := r3.step b4
  have N4 := ((N2.wrote r3).below b4).cons (new_nb hb hg26 t26 (by decide))
  refine (wids_c r4.wr (by rw [one_len]; omega) [⟨o.s, o.n⟩] rfl (by simp) t26 (N4 g26 (by simp)).1 (by simp only [List.mem_singleton]; rintro _ rfl; exact (show 0 ≤ o.n ∧ o.n ≤ 9223372036854775807 from ⟨by omega, by omega⟩))).mono ?_
  rintro e w5 ⟨rfl, r5⟩
  rw [ids_one] at r5
  have f5 := r5.fr f4
  have N5 := N4.wrote r5
  have R5 := (r2.trans r4).trans r5
  have fin : ∀ (w' : World) (ys : List UInt8), Wrote b (xs ++ [u8 o.kd] ++ idB o.s o.n ++ ys) w w' → ys = restB o → WR b (xs ++ opB o) w (.returned (.tuple #[])) w' := by
    rintro w' ys k rfl
    refine ⟨rfl, ?_⟩
    have e : xs ++ opB o = xs ++ [u8 o.kd] ++ idB o.s o.n ++ restB o := by simp [opB]
    rw [e]; exact k
  have hl5 : (xs ++ [u8 o.kd] ++ idB o.s o.n).length ≤ 80005 := by rw [List.length_append, one_len, idB_len]; omega
  refine ⟨rfl, wrote_ok r5 f4 N4, ?_⟩
  generalize xs ++ [u8 o.kd] ++ idB o.s o.n = P at R5 r5 fin hl5
  refine ⟨fun h3 => ?_, fun h3 => ⟨fun h5 => ?_, fun h5 => ⟨fun h6 => ?_, fun h6 => ⟨fun h7 => ?_, fun h7 => ⟨fun h8 => ?_, fun h8 => ?_⟩⟩⟩⟩⟩
  · obtain ⟨k1, k2⟩ := hg.k3 h3
    have q1 := corner_iff k1
    have q2 := corner_iff k2
    refine (wcorner_c r5.wr (by omega) _ _ _ _ _ ⟨by omega, by omega⟩ ⟨by omega, by omega⟩ ⟨by omega, by omega⟩).mono ?_
    rintro e w6 ⟨rfl, r6⟩
    have cl := cornB_len o.a1 o.a2 o.a3 o.a4 o.a5
    refine ⟨rfl, wrote_ok r6 f5 N5, ?_⟩
    refine (wcorner_c r6.wr (by rw [List.length_append]; omega) _ _ _ _ _ ⟨by omega, by omega⟩ ⟨by omega, by omega⟩ ⟨by omega, by omega⟩).mono ?_
    rintro e w7 ⟨rfl, r7⟩
    refine ⟨rfl, wrote_ok r7 (r6.fr f5) (N5.wrote r6), fin w7 _ ?_ (by unfold restB; rw [if_pos h3])⟩
    have k := (R5.trans r6).trans r7
    rw [List.append_assoc] at k
    exact k
  · obtain ⟨k1, k2, k3, k4⟩ := hg.k5 h5
    have q1 := idOk_iff k1
    have q2 := idOk_iff k2
    intro g27 hg27 w6 f6 b6 lo27 t27
    have r6 := r5.step b6
    have N6 := (N5.below b6).cons (new_nb hb hg27 t27 (by decide))
    refine (wids_c r6.wr (by omega) [⟨o.s1, o.n1⟩, ⟨o.s2, o.n2⟩] rfl (by simp) t27 (N6 g27 (by simp)).1 (by
      intro x hx
      simp only [List.mem_cons, List.not_mem_nil, or_false] at hx
      rcases hx with rfl | rfl
      · exact (show 0 ≤ o.n1 ∧ o.n1 ≤ 9223372036854775807 from ⟨by omega, by omega⟩)
      · exact (show 0 ≤ o.n2 ∧ o.n2 ≤ 9223372036854775807 from ⟨by omega, by omega⟩))).mono ?_
    rintro e w7 ⟨rfl, r7⟩
    rw [ids_two] at r7
    refine ⟨rfl, wrote_ok r7 f6 N6, b, 0, rfl, fun w8 f8 b8 => ?_⟩
    have r8 := r7.step b8
    rw [u8_wrap]
    refine (writeByte_c r8.wr (u8 o.nn) (by rw [List.length_append, List.length_append, idB_len, idB_len]; omega)).mono ?_
    rintro e w9 ⟨rfl, r9⟩
    refine ⟨_, rfl, wrote_ok r9 f8 ((N6.wrote r7).below b8), fin w9 _ ?_ (by unfold restB; rw [if_neg h3, if_pos h5])⟩
    have k := ((R5.step b6).trans r8).trans r9
    simp only [List.append_assoc] at k ⊢
    exact k
  · have q1 := idOk_iff (hg.k6 h6)
    intro g27 hg27 w6 f6 b6 lo27 t27
    have r6 := r5.step b6
    have N6 := (N5.below b6).cons (new_nb hb hg27 t27 (by decide))
    refine (wids_c r6.wr (by omega) [⟨o.s2, o.n2⟩] rfl (by simp) t27 (N6 g27 (by simp)).1 (by simp only [List.mem_singleton]; rintro _ rfl; exact (show 0 ≤ o.n2 ∧ o.n2 ≤ 9223372036854775807 from ⟨by omega, by omega⟩))).mono ?_
    rintro e w7 ⟨rfl, r7⟩
    rw [ids_one] at r7
    exact ⟨rfl, wrote_ok r7 f6 N6, fin w7 _ ((R5.step b6).trans r7) (by unfold restB; rw [if_neg h3, if_neg h5, if_pos h6])⟩
  · refine (wflag_c r5.wr (by omega) o.oe).mono ?_
    rintro e w6 ⟨rfl, r6⟩
    refine ⟨rfl, wrote_ok r6 f5 N5, b, 0, rfl, fun w7 f7 b7 => ?_⟩
    have hs := label_size (hg.k7 h7)
    refine (packText_c w7 o.tx (by omega)).mono ?_
    rintro e w8 ⟨A8, n8, c8, rfl, o8, b8⟩
    refine ⟨A8, n8, c8, rfl, ok_ret b8 f7, ?_⟩
    have r8 := (r6.step b7).step b8
    have lt7 : b < w7.heap.size := Nat.lt_of_lt_of_le hb f7.size
    have ht : (textB o.tx).length = o.tx.size + 1 := by simp [textB]
    refine (write_c r8.wr (by rw [one_len]; omega) (o8.sl.weaken fun k hk _ => by omega) (by omega) (by omega)).mono ?_
    rintro e w9 ⟨rfl, r9⟩
    refine ⟨_, _, rfl, wrote_ok r9 (f7.step b8) (((N5.wrote r6).below b7).below b8), fin w9 _ ?_ (by unfold restB; rw [if_neg h3, if_neg h5, if_neg h6, if_pos h7])⟩
    have k := (R5.trans r8).trans r9
    simpa using k
  · refine (wflag_c r5.wr (by omega) o.oe).mono ?_
    rintro e w6 ⟨rfl, r6⟩
    refine ⟨rfl, wrote_ok r6 f5 N5, b, 0, rfl, fun w7 f7 b7 => ?_⟩
    refine (packNum_c (ok := fun _ => True) (Sl.nil0 w7 _) (by omega) o.nn).mono ?_
    rintro e w8 ⟨A8, n8, c8, rfl, o8, b8⟩
    rw [List.nil_append] at o8
    refine ⟨A8, n8, c8, rfl, ok_ret b8 f7, ?_⟩
    have r8 := (r6.step b7).step b8
    have lt7 : b < w7.heap.size := Nat.lt_of_lt_of_le hb f7.size
    refine (write_c r8.wr (by rw [one_len]; omega) (o8.sl.weaken fun k hk _ => by omega) (by rw [numB_len]; decide) (by rw [numB_len]; decide)).mono ?_
    rintro e w9 ⟨rfl, r9⟩
    refine ⟨_, _, rfl, wrote_ok r9 (f7.step b8) (((N5.wrote r6).below b7).below b8), fin w9 _ ?_ (by unfold restB; rw [if_neg h3, if_neg h5, if_neg h6, if_neg h7, if_pos h8])⟩
    have k := (R5.trans r8).trans r9
    simpa using k
  · exact fin w5 [] (by simpa using R5) (by unfold restB; rw [if_neg h3, if_neg h5, if_neg h6, if_neg h7, if_neg h8])
end Go.Proofs.YtfjenamomipmdaaDoor


/- Opcode: Put. -/
set_option linter.unusedSimpArgs false
set_option linter.unusedVariables false
namespace Go.Proofs.YtfjenamomipmdaaDoor
open Go Go.RowKit Go.Proofs Go.Trc Go.Sx
theorem cells_one {w : World} {b o : Nat} {v : Value} (h : w.cell? ⟨b, o, none⟩ = some v) : CellsAt w b o [v] := by
  intro j u hu
  cases j with
  | zero => simp only [nth] at hu; injection hu with hu; subst hu; exact h
  | succ j => cases j <;> simp [nth] at hu
theorem cells_row {w : World} {g o : Nat} {C : Array Value} {t : TypeId} {fr : Nat × Nat} {v : Value} (h : w.heap[g]? = some (.cells C t fr)) (hv : C[o]? = some v) : CellsAt w g o [v] := cells_one ((cell_of_row w g o C t fr h).trans hv)
theorem write0_c {b c : Nat} {A : Option Addr} {w : World} (h : w.heap[b]? = some (.cells #[.slice none 0 0, .int .i64 0, .int .i8 0] 73 (0, 0))) :
    Calls Tryd.prog 35 #[.pointer (some ⟨b, 0, none⟩), .slice A 0 c] w fun e w' => e = .returned (.tuple #[.int .i64 0, .nilIface]) ∧ Wrote b [] w w' := by
  obtain ⟨w1, hr1, h1, g1⟩ := store_row (P := Tryd.prog) (w := w) 69 (by kernel_rfl) (v := .int .i8 0) (o := 2) h (by simp) rfl rfl
  have h1' : w1.heap[b]? = some (.cells #[.slice none 0 0, .int .i64 0, .int .i8 0] 73 (0, 0)) := h1
  refine bufWrite_sx _ (fun k => k = b) w _ A 0 c ⟨b, 0, rfl, w1, hr1, ⟨⟨g1.os, g1.tape, g1.output, g1.size, fun k hk hn => g1.block k hk fun hh => hn (by injection hh)⟩, mild_nil g1.size⟩, ?_⟩
  have f1 : Fr (fun k => k = b) w w1 := ⟨g1.os, g1.tape, g1.output, g1.size, fun k hk hn => g1.block k hk fun hh => hn (by injection hh)⟩
  refine (Tryd.Buffer_tryGrow_room_at b 0 none 0 0 0 w1 (by rw [Lib.cell_of_heap h1']; rfl) (Lib.frozen_of_heap h1' 0) (Nat.le_refl _) (Nat.zero_le _) (Nat.zero_le _)).mono ?_
  rintro e w2 ⟨rfl, rfl⟩
  have g2 := Lib.grownBy_setCell w1 b 0 (.slice none (0 + 0) 0)
  have h2 : (w1.setCell ⟨b, 0, none⟩ (.slice none (0 + 0) 0)).heap[b]? = some (.cells #[.slice none 0 0, .int .i64 0, .int .i8 0] 73 (0, 0)) := Lib.heap_setCell_same (i := 0) h1' _
  generalize w1.setCell ⟨b, 0, none⟩ (.slice none (0 + 0) 0) = w2 at g2 h2 ⊢
  have f2 : Fr (fun k => k = b) w w2 := ⟨g2.os.trans f1.os, g2.tape.trans f1.tape, g2.output.trans f1.output, Nat.le_trans f1.size g2.size, fun k hk hn => (g2.block k (Nat.lt_of_lt_of_le hk f1.size) fun hh => hn (by injection hh)).trans (f1.block k hk hn)⟩
  refine ⟨_, _, rfl, ⟨f2, mild_nil g2.size⟩, (fun hf => by cases hf), fun _ => ⟨b, 0, rfl, none, 0, 0, cells_row h2 rfl, none, 0, 0, by kernel_rfl, ?_⟩⟩
  obtain ⟨i, hi, hz, hsz, hby⟩ := infoB2
  have hc := run_copy_none (P := Tryd.prog) w2 22 22 3 5 none A 0 0 0 c Tryd.underlying22 (by rw [hi]; simp [hsz]) (by simp)
  refine ⟨w2, _, hc, ⟨f2, mild_nil (Nat.le_refl _)⟩, rfl, Wr.new h2, ?_, ?_⟩
  · exact ⟨f2.os, f2.tape, f2.output, f2.size, fun k hk => f2.block k (by have := heap_lt h; omega) (by omega)⟩
  · intro k o hk hkb _
    rw [f2.block k (heap_lt hk) fun hh => hkb (by rw [hh])]
    exact hk
theorem Wrote.fr0 {b : Nat} {xs : List UInt8} {w0 w w' : World} (h : Wrote b xs w w') (f : Fr (fun _ => False) w0 w) (hb : w0.heap.size ≤ b) : Fr (fun _ => False) w0 w' :=
  ⟨h.low.os.trans f.os, h.low.tape.trans f.tape, h.low.output.trans f.output, Nat.le_trans f.size h.low.size, fun k hk hn => (h.low.block k (by omega)).trans (f.block k hk hn)⟩
theorem bytes_c {b : Nat} {xs : List UInt8} {w : World} (h : Wr b xs w) : Calls Tryd.prog 38 #[.pointer (some ⟨b, 0, none⟩)] w fun e w' => ∃ A n c, e = .returned (.slice A n c) ∧ OwnF w' b 5 (.slice A n c) xs ∧ Below w.heap.size w w' := by
  obtain ⟨A, n, c, i, j, hg, rfl, ho⟩ := h.cells
  refine bufBytes_sx _ (fun _ => False) w _ ⟨b, 0, rfl, fun w1 f1 b1 => ?_⟩
  have hg1 := (b1.block b h.lt).trans hg
  obtain ⟨i, hi, hz, hsz, hby⟩ := infoB2
  refine ⟨A, n, c, cells_row hg1 rfl, ⟨h.lt, by simp⟩, b, 0, rfl, 0, cells_row hg1 rfl, ⟨h.lt, by simp⟩, A, n, c, fun w' _ => ?_, A, n, c, rfl, ho.below b1, b1⟩
  have hn : n ≤ c := (ho.sl.len_eq).2.1
  have h1 : (0 : Int) ≤ n := by omega
  obtain ⟨A', c', he, hA⟩ := Own.slice ho
  simp only [Value.slice.injEq] at he
  obtain ⟨e1, e2, e3⟩ := he
  rw [← e1] at hA
  have key : ∀ i : TypeInfo, Tryd.prog.info? 5 = some i → (Instr.sliceAt 22 (.slice A n c) (some (.int .i64 0)) none none).run Tryd.prog w' = .ok (.slice (if c = 0 then A else A.map (·.add (0 * i.size))) (n - 0) (c - 0)) w' := by
    intro i hi
    simp [Instr.sliceAt, run_underlying Tryd.underlying22, Instr.slice, Instr.sliceBounds, Instr.sliceBound, asIntOf, h1, hn, Go.Sx.run_sizeOf hi]
  rw [key i hi, Nat.zero_mul]
  cases A with
  | none => simp
  | some a =>
    obtain ⟨g, rfl, _⟩ := hA a rfl
    by_cases hc : c = 0 <;> simp [hc, add_plain]
set_option maxHeartbeats 2000000 in
theorem opcodePut_c {w : World} {ok ok' : Nat → Prop} {A A3 : Option Addr} {n c n4 c5 : Nat} {xs : List UInt8} {l : List OpV} (h : Sl w ok (.slice A n c) xs) (hl : n ≤ 50000) (hops : Sl w ok' (.slice A3 n4 c5) l) :
    Calls Tryd.prog 15 #[.slice A n c, .agg #[.slice A3 n4 c5]] w (RetB w (putV xs l)) := by
  have hn := h.len
  have hn4 := hops.len
  refine opcodePut_sx _ (fun _ => False) w A n c A3 n4 c5 ?_
  intro g6 hg6 w1 f1 b1 lo6 t6
  refine (mayEdit_c w1 ok' A3 n4 c5 l (hops.below b1)).mono ?_
  rintro e w2 ⟨rfl, b2⟩
  have f2 := f1.step b2
  refine ⟨_, rfl, ok_ret b2 f1, fun hne => ?_, fun he => ?_⟩
  · have : putV xs l = ([], mayEditV l) := by unfold putV; rw [if_neg hne]
    rw [this]
    exact ⟨none, 0, 0, rfl, OwnF.nil _ _ _, fr_below f2⟩
  have hpv : putV xs l = (xs ++ editB l, 0) := by unfold putV; rw [if_pos he]
  obtain ⟨hlen, hgood⟩ := may_good he
  intro g8 hg8 w3 f3 b3 lo8 t8
  have h3 : Sl w3 (fun k => k ≠ g8) (.slice A n c) xs := ((h.bound).below (fr_below f3)).weaken fun k hk _ => by have := hk.2; omega
  have n6 : Nbs g8 w3 [g6] := (Nbs.nil _ _).cons ⟨by have := heap_lt t6; have := b2.size; omega, _, _, _, (b3.block g6 (Nat.lt_of_lt_of_le (heap_lt t6) b2.size)).trans ((b2.block g6 (heap_lt t6)).trans t6), by decide⟩
  have W0 : Calls Tryd.prog 35 #[.pointer (some ⟨g8, 0, none⟩), .slice A n c] w3 fun e w' => e = .returned (.tuple #[.int .i64 (n : Int), .nilIface]) ∧ Wrote g8 xs w3 w' := by
    by_cases h0 : n = 0
    · subst h0
      obtain rfl : xs = [] := List.eq_nil_of_length_eq_zero hn.symm
      exact write0_c t8
    · have := write_c (Wr.new t8) (by simp) h3 (by omega) (by omega)
      simpa using this
  refine W0.mono ?_
  rintro e w4 ⟨rfl, r4⟩
  obtain ⟨A4, n4', c4', i4, j4, hc4, -, -⟩ := r4.wr.cells
  have f4 := r4.fr0 f3 hg8
  refine ⟨_, _, A4, n4', c4', i4, j4, rfl, ⟨f4, r4.mild n6⟩, hc4, fun _ => ?_⟩
  rw [hn4, u8_wrap]
  refine (writeByte_c r4.wr (u8 l.length) (by omega)).mono ?_
  rintro e w5 ⟨rfl, r5⟩
  obtain ⟨A5, n5, c5', i5, j5, hc5, -, -⟩ := r5.wr.cells
  have n65 := (n6.wrote r4).wrote r5
  refine ⟨_, A5, n5, c5', i5, j5, rfl, ⟨r5.fr0 f4 hg8, r5.mild (n6.wrote r4)⟩, hc5, fun i _ _ _ _ _ w' => ∃ k : Nat, i = (k : Int) ∧ k ≤ l.length ∧ Wr g8 (xs ++ [u8 l.length] ++ (l.take k).flatMap opB) w' ∧ Nbs g8 w' [g6], fun i _ _ _ _ _ _ => (l.length - i : Int).toNat, ⟨0, rfl, Nat.zero_le _, by simpa using r5.wr, n65⟩, ?_⟩
  rintro _ A23 n24 n25 i26 i27 w6 f6 ⟨k, rfl, hk, r, n66⟩ t6'
  refine ⟨fun hlt => ?_, fun hge => ?_⟩
  · have hlt' : k < l.length := by omega
    obtain ⟨b, o, hA, _, _, _, hc⟩ := Sl.op (hops.below (fr_below f6)) k hlt'
    have hg := hgood _ (List.getElem_mem hlt')
    have hfl := flat_op_len (l := l.take k) fun x hx => hgood x (List.mem_of_mem_take hx)
    have htl : (l.take k).length ≤ 6 := by rw [List.length_take]; omega
    refine ⟨by omega, hlt, b, o, hA, _, _, _, _, _, _, _, _, _, _, _, _, _, _, _, _, _, _, _, _, hc, ?_⟩
    intro g50 hg50 w7 f7 b7 lo50 t50 t8'
    have n7 := (n66.below b7).cons (g := g50) ⟨by have := r.lt; omega, _, _, _, t50, by decide⟩
    refine (wop_c (r.below b7) (by simp only [List.length_append, List.length_cons, List.length_nil]; omega) _ hg).mono ?_
    rintro e w8 ⟨rfl, r8⟩
    obtain ⟨A8, n8, c8, i8, j8, hc8, -, -⟩ := r8.wr.cells
    refine ⟨A8, n8, c8, i8, j8, rfl, ⟨r8.fr0 f7 hg8, r8.mild n7⟩, hc8, ⟨k + 1, by rw [wrap_in (by omega)]; rfl, hlt', ?_, fun g hg => (n7.wrote r8) g (by simp at hg ⊢; omega)⟩, by dsimp only; rw [wrap_in (by omega)]; omega⟩
    rw [take_op l k hlt', ← List.append_assoc]
    exact r8.wr
  · intro t8'
    refine (bytes_c r).mono ?_
    rintro e w7 ⟨A7, n7, c7, rfl, o7, b7⟩
    have f7 := f6.step b7
    refine ⟨A7, n7, c7, rfl, ok_ret b7 f6, ?_⟩
    rw [hpv]
    refine ⟨A7, n7, c7, rfl, ?_, fr_below f7⟩
    rw [List.take_of_length_le (by omega)] at o7
    have e : xs ++ editB l = xs ++ [u8 l.length] ++ l.flatMap opB := by simp [editB]
    show OwnF w7 w.heap.size 5 (.slice A7 n7 c7) (xs ++ editB l)
    rw [e]
    exact o7.base' fun k hk => Nat.le_trans hg8 (Own.base o7 k hk)
end Go.Proofs.YtfjenamomipmdaaDoor
