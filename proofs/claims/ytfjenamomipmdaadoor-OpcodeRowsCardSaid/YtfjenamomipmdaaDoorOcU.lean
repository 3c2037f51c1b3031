/- Opcode: the reader. -/
import Derived.Test.YtfjenamomipmdaaDoorOcT
set_option linter.unusedSimpArgs false
set_option linter.unusedVariables false
namespace Go.Proofs.YtfjenamomipmdaaDoor
open Go Go.RowKit Go.Proofs Go.Trc Go.Sx
/-- Bytes that are left, and whether something was not there. -/
abbrev RS := List UInt8 × Bool
def takenV {α : Type} (tk : List UInt8 → α × List UInt8 × Bool) (s : RS) : α × RS := ((tk s.1).1, ((tk s.1).2.1, s.2 || !(tk s.1).2.2))
def Rdr (w : World) (B g : Nat) (T : TypeId) (s : RS) : Prop := B ≤ g ∧ ∃ A n c, w.heap[g]? = some (.cells #[.slice A n c, .bool s.2] T (0, 0)) ∧ n ≤ 1000000 ∧ Sl w (fun b => b < B) (.slice A n c) s.1
theorem Rdr.lt {w : World} {B g : Nat} {T : TypeId} {s : RS} (h : Rdr w B g T s) : g < w.heap.size := by obtain ⟨_, _, _, _, hg, _⟩ := h; exact heap_lt hg
theorem Rdr.below {w w' : World} {B g : Nat} {T : TypeId} {s : RS} (h : Rdr w B g T s) (b : Below w.heap.size w w') : Rdr w' B g T s := by
  obtain ⟨hB, A, n, c, hg, hn, hs⟩ := h
  exact ⟨hB, A, n, c, (b.block g (heap_lt hg)).trans hg, hn, hs.below b⟩
theorem Rdr.past {w w' : World} {B g : Nat} {T : TypeId} {s : RS} {G : List Nat} (h : Rdr w B g T s) (q : Fr (fun b => b ∈ G) w w') (hG : ∀ x ∈ G, x ≠ g ∧ B ≤ x) : Rdr w' B g T s := by
  obtain ⟨hB, A, n, c, hg, hn, hs⟩ := h
  exact ⟨hB, A, n, c, (q.block g (heap_lt hg) fun hm => (hG g hm).1 rfl).trans hg, hn, hs.past q fun x hx => by have := (hG x hx).2; omega⟩
def TR {α : Type} (w : World) (B g : Nat) (T : TypeId) (enc : α → Value) (x : α × RS) (e : Ending) (w' : World) : Prop := e = .returned (enc x.1) ∧ Rdr w' B g T x.2 ∧ Fr (fun b => b ∈ [g]) w w'
theorem fr_trans {G : List Nat} {a b c : World} (f : Fr (fun k => k ∈ G) a b) (k : Fr (fun k => k ∈ G) b c) : Fr (fun k => k ∈ G) a c := f.trans k (fun _ _ h => h) (fun _ _ h => h)
theorem tr_ok {w0 w w' : World} {g : Nat} {G : List Nat} (f : Fr (fun b => b ∈ [g]) w0 w) (q : Fr (fun b => b ∈ [g]) w w') (hG : ∀ x ∈ G, x ≠ g) : Fr (fun b => b ∈ [g]) w0 w' ∧ Mild G w w' :=
  ⟨fr_trans f q, q.size, fun x hx hl => q.block x hl fun hm => hG x hx (by simpa using hm)⟩
/-- A function value that takes. -/
def Taker {α : Type} (w : World) (B : Nat) (v : Value) (enc : α → Value) (tk : List UInt8 → α × List UInt8 × Bool) : Prop :=
  (∀ ys, (tk ys).2.1.length ≤ ys.length) ∧ ∀ w1 xs A n c, Below w.heap.size w w1 → Sl w1 (fun b => b < B) (.slice A n c) xs → n ≤ 1000000 →
    ∃ f ar, (do Go.invoke (← Deferred.ofValue v #[.slice A n c]).target (← Deferred.ofValue v #[.slice A n c]).args : Sem Next).run Tryd.prog w1 = .ok (.enter f ar) w1 ∧ Calls Tryd.prog f ar w1 (TakeR w1 (fun b => b < B) enc (tk xs))
theorem Taker.below {α : Type} {w w' : World} {B : Nat} {v : Value} {enc : α → Value} {tk : List UInt8 → α × List UInt8 × Bool} (h : Taker w B v enc tk) (b : Below w.heap.size w w') : Taker w' B v enc tk :=
  ⟨h.1, fun w1 xs A n c b1 => h.2 w1 xs A n c (b.trans (b1.mono b.size))⟩
/-- The reader's two cells are stored. -/
theorem rdr_store {w : World} {B g n c : Nat} {T : TypeId} {A : Option Addr} {C0 C1 : Value} {ys : List UInt8} (hB : B ≤ g) (hg : w.heap[g]? = some (.cells #[C0, C1] T (0, 0))) (hs : Sl w (fun b => b < B) (.slice A n c) ys) (hn : n ≤ 1000000) (bad : Bool) :
    ∃ w2, (Instr.storeAt 22 (.pointer (some ⟨g, 0, none⟩)) (.slice A n c)).run Tryd.prog w = .ok () w2 ∧ w2.heap[g]? = some (.cells #[.slice A n c, C1] T (0, 0)) ∧ Fr (fun b => b ∈ [g]) w w2 ∧
      ∃ w3, (Instr.storeAt 4 (.pointer (some ⟨g, 1, none⟩)) (.bool bad)).run Tryd.prog w2 = .ok () w3 ∧ Fr (fun b => b ∈ [g]) w2 w3 ∧ Rdr w3 B g T (ys, bad) := by
  obtain ⟨w2, hr2, hg2, gr2⟩ := store_row (P := Tryd.prog) (w := w) 22 (by kernel_rfl) (v := .slice A n c) (o := 0) hg (by simp) rfl rfl
  have hg2 : w2.heap[g]? = some (.cells #[.slice A n c, C1] T (0, 0)) := hg2
  obtain ⟨w3, hr3, hg3, gr3⟩ := store_row (P := Tryd.prog) (w := w2) 4 (by kernel_rfl) (v := .bool bad) (o := 1) hg2 (by simp) rfl rfl
  have f2 := fr_of_grown gr2
  have f3 := fr_of_grown gr3
  exact ⟨w2, hr2, hg2, f2, w3, hr3, f3, hB, A, n, c, hg3, hn, hs.past (fr_trans f2 f3) fun x hx => by simp only [List.mem_singleton] at hx; omega⟩
set_option maxHeartbeats 1000000 in
theorem takenInt_c {w : World} {B g : Nat} {s : RS} (h : Rdr w B g 88 s) (v : Value) (tk : List UInt8 → Int × List UInt8 × Bool) (hv : Taker w B v encI tk) :
    Calls Tryd.prog 45 #[.pointer (some ⟨g, 0, none⟩), v] w (TR w B g 88 encI (takenV tk s)) := by
  obtain ⟨hB, A, n, c, hg, hn, hs⟩ := h
  refine takenInt_sx _ (fun b => b ∈ [g]) w _ v ⟨g, 0, rfl, A, n, c, cells_row hg rfl, ?_⟩
  obtain ⟨f, ar, hi, hc⟩ := hv.2 w s.1 A n c (Below.refl _ _) hs hn
  have ht := hv.1 s.1
  refine ⟨f, ar, hi, hc.mono ?_⟩
  rintro e w1 ⟨A8, n9, c10, rfl, s1, b1⟩
  have hg1 := (b1.block g (heap_lt hg)).trans hg
  have s1 := s1.below b1
  have f1 : Fr (fun b => b ∈ [g]) w w1 := (Fr.refl _ _).step b1
  refine ⟨_, A8, n9, c10, _, rfl, ok_ret b1 (Fr.refl _ _), g, 0, rfl, s.2, cells_row hg1 rfl, fun hb => ?_, fun hb => ?_⟩
  · skip
    -- the answer is told, and both cells stored
    obtain ⟨w2, hr2, hg2, f2, w3, hr3, f3, r3⟩ := rdr_store hB hg1 s1 (by have := s1.len; have := ht; have := hs.len; omega) true
    refine ⟨g, 0, rfl, w2, hr2, tr_ok f1 f2 (by simp), g, 0, rfl, w3, hr3, tr_ok (fr_trans f1 f2) f3 (by simp), rfl, ?_, fr_trans (fr_trans f1 f2) f3⟩
    show Rdr w3 B g _ ((tk s.1).2.1, s.2 || !(tk s.1).2.2)
    rw [hb]; exact r3
  · skip
    -- the answer is told, and both cells stored
    obtain ⟨w2, hr2, hg2, f2, w3, hr3, f3, r3⟩ := rdr_store hB hg1 s1 (by have := s1.len; have := ht; have := hs.len; omega) (!(tk s.1).2.2)
    refine ⟨g, 0, rfl, w2, hr2, tr_ok f1 f2 (by simp), g, 0, rfl, w3, hr3, tr_ok (fr_trans f1 f2) f3 (by simp), rfl, ?_, fr_trans (fr_trans f1 f2) f3⟩
    show Rdr w3 B g _ ((tk s.1).2.1, s.2 || !(tk s.1).2.2)
    rw [hb]; exact r3
set_option maxHeartbeats 1000000 in
theorem takenStr_c {w : World} {B g : Nat} {s : RS} (h : Rdr w B g 88 s) (v : Value) (tk : List UInt8 → ByteArray × List UInt8 × Bool) (hv : Taker w B v encS tk) :
    Calls Tryd.prog 73 #[.pointer (some ⟨g, 0, none⟩), v] w (TR w B g 88 encS (takenV tk s)) := by
  obtain ⟨hB, A, n, c, hg, hn, hs⟩ := h
  refine takenStr_sx _ (fun b => b ∈ [g]) w _ v ⟨g, 0, rfl, A, n, c, cells_row hg rfl, ?_⟩
  obtain ⟨f, ar, hi, hc⟩ := hv.2 w s.1 A n c (Below.refl _ _) hs hn
  have ht := hv.1 s.1
  refine ⟨f, ar, hi, hc.mono ?_⟩
  rintro e w1 ⟨A8, n9, c10, rfl, s1, b1⟩
  have hg1 := (b1.block g (heap_lt hg)).trans hg
  have s1 := s1.below b1
  have f1 : Fr (fun b => b ∈ [g]) w w1 := (Fr.refl _ _).step b1
  refine ⟨_, A8, n9, c10, _, rfl, ok_ret b1 (Fr.refl _ _), g, 0, rfl, s.2, cells_row hg1 rfl, fun hb => ?_, fun hb => ?_⟩
  · skip
    -- the answer is told, and both cells stored
    obtain ⟨w2, hr2, hg2, f2, w3, hr3, f3, r3⟩ := rdr_store hB hg1 s1 (by have := s1.len; have := ht; have := hs.len; omega) true
    refine ⟨g, 0, rfl, w2, hr2, tr_ok f1 f2 (by simp), g, 0, rfl, w3, hr3, tr_ok (fr_trans f1 f2) f3 (by simp), rfl, ?_, fr_trans (fr_trans f1 f2) f3⟩
    show Rdr w3 B g _ ((tk s.1).2.1, s.2 || !(tk s.1).2.2)
    rw [hb]; exact r3
  · skip
    -- the answer is told, and both cells stored
    obtain ⟨w2, hr2, hg2, f2, w3, hr3, f3, r3⟩ := rdr_store hB hg1 s1 (by have := s1.len; have := ht; have := hs.len; omega) (!(tk s.1).2.2)
    refine ⟨g, 0, rfl, w2, hr2, tr_ok f1 f2 (by simp), g, 0, rfl, w3, hr3, tr_ok (fr_trans f1 f2) f3 (by simp), rfl, ?_, fr_trans (fr_trans f1 f2) f3⟩
    show Rdr w3 B g _ ((tk s.1).2.1, s.2 || !(tk s.1).2.2)
    rw [hb]; exact r3
set_option maxHeartbeats 1000000 in
theorem takenID_c {w : World} {B g : Nat} {s : RS} (h : Rdr w B g 88 s) (v : Value) (tk : List UInt8 → (Int × Int) × List UInt8 × Bool) (hv : Taker w B v encP tk) :
    Calls Tryd.prog 98 #[.pointer (some ⟨g, 0, none⟩), v] w (TR w B g 88 encP (takenV tk s)) := by
  have lg := h.lt
  refine takenID_sx _ (fun b => b ∈ [g]) w _ v ?_
  intro g2 hg2
  refine ⟨g, 0, rfl, fun w1 f1 b1 lo2 t2 => ?_⟩
  obtain ⟨hB, A, n, c, hg, hn, hs⟩ := h.below b1
  obtain ⟨f, ar, hi, hc⟩ := hv.2 w1 s.1 A n c b1 hs hn
  have ht := hv.1 s.1
  refine ⟨A, n, c, cells_row hg rfl, f, ar, hi, hc.mono ?_⟩
  rintro e w2 ⟨A8, n9, c10, rfl, s1, b2⟩
  refine ⟨_, _, A8, n9, c10, _, rfl, ok_ret b2 f1, fun g14 hg14 => ⟨g, 0, rfl, fun w3 f3' b3 lo14 t14 => ?_⟩⟩
  have b23 := b2.trans (b3.mono b2.size)
  have hg1 := (b23.block g (heap_lt hg)).trans hg
  have s1 := s1.below b23
  refine ⟨s.2, cells_row hg1 rfl, fun hb => ?_, fun hb => ?_⟩
  · obtain ⟨w4, hr2, hg2', f2, w5, hr3, f3, r3⟩ := rdr_store hB hg1 s1 (by have := s1.len; have := ht; have := hs.len; omega) true
    refine ⟨g, 0, rfl, w4, hr2, tr_ok f3' f2 (by simp; omega), g, 0, rfl, w5, hr3, tr_ok (fr_trans f3' f2) f3 (by simp; omega), fun w6 f6 q6 => ⟨rfl, ?_, f6⟩⟩
    show Rdr w6 B g _ ((tk s.1).2.1, s.2 || !(tk s.1).2.2)
    rw [hb]; exact r3.past q6 (by simp; omega)
  · obtain ⟨w4, hr2, hg2', f2, w5, hr3, f3, r3⟩ := rdr_store hB hg1 s1 (by have := s1.len; have := ht; have := hs.len; omega) (!(tk s.1).2.2)
    refine ⟨g, 0, rfl, w4, hr2, tr_ok f3' f2 (by simp; omega), g, 0, rfl, w5, hr3, tr_ok (fr_trans f3' f2) f3 (by simp; omega), fun w6 f6 q6 => ⟨rfl, ?_, f6⟩⟩
    show Rdr w6 B g _ ((tk s.1).2.1, s.2 || !(tk s.1).2.2)
    rw [hb]; exact r3.past q6 (by simp; omega)
theorem identV_len (xs : List UInt8) : (identV xs).2.1.length ≤ xs.length := by
  unfold identV
  split
  · split <;> simp; omega
  · exact Nat.le_refl _
theorem countV_len (xs : List UInt8) : (countV xs).2.1.length ≤ xs.length := by
  unfold countV
  split
  · split <;> simp; omega
  · exact Nat.le_refl _
theorem textV_len (xs : List UInt8) : (textV xs).2.1.length ≤ xs.length := countV_len xs
theorem numV_len (xs : List UInt8) : (numV xs).2.1.length ≤ xs.length := by unfold numV; split <;> simp
theorem uptoV_len (m : Nat) (xs : List UInt8) : (uptoV m xs).2.1.length ≤ xs.length := by
  unfold uptoV
  split
  · split <;> simp
  · exact Nat.le_refl _
theorem app_nil1 (v : Value) : (#[v] : Array Value) ++ #[] = #[v] := rfl
theorem taker_id (w : World) (B : Nat) : Taker w B (.func (.func 99) #[] #[]) encP identV :=
  ⟨identV_len, fun w1 xs A n c _ hs _ => ⟨_, _, callv_ok (by kernel_rfl) #[] _ _, identTake_c hs⟩⟩
theorem taker_text (w : World) (B : Nat) : Taker w B (.func (.func 74) #[] #[]) encS textV :=
  ⟨textV_len, fun w1 xs A n c _ hs hn => ⟨_, _, callv_ok (by kernel_rfl) #[] _ _, takeText_c hs hn⟩⟩
theorem taker_num (w : World) (B : Nat) : Taker w B (.func (.func 51) #[] #[]) encI numV :=
  ⟨numV_len, fun w1 xs A n c _ hs _ => ⟨_, _, callv_ok (by kernel_rfl) #[] _ _, takeNum_c hs⟩⟩
theorem taker_upto {w : World} {g m : Nat} (B : Nat) (hg : w.heap[g]? = some (.cells #[.int .u8 (m : Int)] 5 (0, 0))) : Taker w B (uptoF g) encI (uptoV m) :=
  ⟨uptoV_len m, fun w1 xs A n c b1 hs _ => ⟨_, _, callv_ok (by kernel_rfl) _ _ _, upto1_c hs ((b1.block g (heap_lt hg)).trans hg)⟩⟩
def idR (s : RS) : (Int × Int) × RS := takenV identV s
abbrev Crn := Int × Int × Int × Int × Int
def encC (x : Crn) : Value := .agg #[.int .i64 x.1, .int .i64 x.2.1, .int .i64 x.2.2.1, .int .i64 x.2.2.2.1, .int .i64 x.2.2.2.2]
def encO (x : OpV) : Value := .agg x.cells
def cornK (v : Int × Int) (n : Int × RS) : Crn × RS := if 0 < n.1 then ((v.1, v.2, (idR n.2).1.1, (idR n.2).1.2, n.1 - 1), (idR n.2).2) else ((v.1, v.2, 0, 0, 0), n.2)
def cornR (s : RS) : Crn × RS := cornK (idR s).1 (takenV (uptoV 2) (idR s).2)
theorem rid_c {w : World} {B g : Nat} {s : RS} (h : Rdr w B g 88 s) : Calls Tryd.prog 71 #[.pointer (some ⟨g, 0, none⟩)] w (TR w B g 88 encP (idR s)) := by
  have lg := h.lt
  have hB := h.1
  refine rid_sx _ (fun b => b ∈ [g]) w _ ?_
  intro g1 hg1 w1 f1 b1 lo1 t1
  refine (takenID_c (h.below b1) _ _ (taker_id w1 B)).mono ?_
  rintro e w2 ⟨rfl, r2, q2⟩
  exact ⟨_, _, rfl, tr_ok f1 q2 (by simp; omega), fun w3 f3 q3 => ⟨rfl, r2.past q3 (by simp; omega), f3⟩⟩
theorem upto_val (m : Nat) (xs : List UInt8) : 0 ≤ (uptoV m xs).1 ∧ (uptoV m xs).1 ≤ m := by
  unfold uptoV
  split
  · split <;> simp; omega
  · simp
/-- A byte of at most m. -/
theorem take_upto {w : World} {B g g1 m : Nat} {s : RS} (h : Rdr w B g 88 s) (hg : w.heap[g1]? = some (.cells #[.int .u8 (m : Int)] 5 (0, 0))) :
    Calls Tryd.prog 45 #[.pointer (some ⟨g, 0, none⟩), uptoF g1] w (TR w B g 88 encI (takenV (uptoV m) s)) := takenInt_c h _ _ (taker_upto B hg)
set_option maxHeartbeats 1000000 in
theorem rcorner_c {w : World} {B g : Nat} {s : RS} (h : Rdr w B g 88 s) : Calls Tryd.prog 72 #[.pointer (some ⟨g, 0, none⟩)] w (TR w B g 88 encC (cornR s)) := by
  have lg := h.lt
  have hB := h.1
  refine rcorner_sx _ (fun b => b ∈ [g]) w _ ?_
  intro g1 hg1 w1 f1 b1 lo1 t1
  refine (rid_c (h.below b1)).mono ?_
  rintro e w2 ⟨rfl, r2, q2⟩
  refine ⟨_, _, rfl, tr_ok f1 q2 (by simp; omega), fun g4 hg4 w3 f3 b3 lo4 t4 => ?_⟩
  refine (upto_c w3 2).mono ?_
  rintro e w4 ⟨g5, lo5, rfl, t5, b4⟩
  refine ⟨_, rfl, ok_ret b4 f3, ?_⟩
  refine (take_upto (m := 2) ((r2.below b3).below b4) t5).mono ?_
  rintro e w5 ⟨rfl, r5, q5⟩
  have f5 := tr_ok (G := []) (f3.step b4) q5 (by simp)
  have hv := upto_val 2 (idR s).2.1
  refine ⟨_, rfl, tr_ok (f3.step b4) q5 (by simp; omega), fun hpos => ?_, fun hz w6 f6 q6 => ?_⟩
  · refine (rid_c r5).mono ?_
    rintro e w6 ⟨rfl, r6, q6⟩
    refine ⟨_, _, rfl, tr_ok f5.1 q6 (by simp; omega), fun w7 f7 q7 => ?_⟩
    have hpos : 0 < (takenV (uptoV 2) (idR s).2).1 := hpos
    have hv : 0 ≤ (takenV (uptoV 2) (idR s).2).1 ∧ (takenV (uptoV 2) (idR s).2).1 ≤ 2 := hv
    rw [wrap_in (by omega)]
    unfold cornR cornK; rw [if_pos hpos]
    exact ⟨rfl, r6.past q7 (by simp; omega), f7⟩
  · have hz : ¬ 0 < (takenV (uptoV 2) (idR s).2).1 := by have : (takenV (uptoV 2) (idR s).2).1 ≤ 0 := hz; omega
    unfold cornR cornK; rw [if_neg hz]
    exact ⟨rfl, r5.past q6 (by simp; omega), f6⟩
end Go.Proofs.YtfjenamomipmdaaDoor
