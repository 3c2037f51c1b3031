/- Opcode: the writer, on the library's contracts of bytes.Buffer. -/
import Derived.Test.YtfjenamomipmdaaDoorOcC
import Derived.Test.YtfjenamomipmdaaDoorSh
set_option linter.unusedSimpArgs false
set_option linter.unusedVariables false
namespace Go.Proofs.YtfjenamomipmdaaDoor
open Go Go.RowKit Go.Proofs Go.Trc Go.Sx
abbrev bcs (xs : List UInt8) : List Value := xs.flatMap Fixed.cells
theorem bcs_len (xs : List UInt8) : (bcs xs).length = xs.length := by rw [bcs, flat_bytes]; simp
/-- Block b is a writer that holds xs; its row is not older. -/
def Wr (b : Nat) (xs : List UInt8) (w : World) : Prop := LibA.IsBuffer 73 (fun _ => none) 5 b b 0 (bcs xs) w
/-- What a writer turns. -/
def FS (b : Nat) (w0 : World) (k : Nat) : Prop := b ≤ k ∧ (k = b ∨ ∃ cs fz, w0.heap[k]? = some (.cells cs 5 fz))
structure Wrote (b : Nat) (xs : List UInt8) (w w' : World) : Prop where
  wr : Wr b xs w'
  low : Below b w w'
  oth : Lib.OthersKept 5 (some b) w w'
theorem Wrote.trans {b : Nat} {xs ys : List UInt8} {w w1 w2 : World} (h : Wrote b xs w w1) (k : Wrote b ys w1 w2) : Wrote b ys w w2 := ⟨k.wr, h.low.trans k.low, h.oth.trans k.oth⟩
theorem Wr.lt {b : Nat} {xs : List UInt8} {w : World} (h : Wr b xs w) : b < w.heap.size := LibA.IsBuffer.lt h
theorem Wr.below {b : Nat} {xs : List UInt8} {w w' : World} (h : Wr b xs w) (k : Below w.heap.size w w') : Wr b xs w' := LibA.IsBuffer.old h k
theorem Wrote.step {b : Nat} {xs : List UInt8} {w w1 w2 : World} (h : Wrote b xs w w1) (k : Below w1.heap.size w1 w2) : Wrote b xs w w2 :=
  ⟨h.wr.below k, h.low.trans (k.mono (Nat.le_of_lt h.wr.lt)), h.oth.below k⟩
theorem Wrote.start {b : Nat} {xs : List UInt8} {w : World} (h : Wr b xs w) : Wrote b xs w w := ⟨h, Below.refl _ _, Lib.OthersKept.refl _ _ _⟩
/-- As the trees ask it. -/
theorem Wrote.fr {b : Nat} {xs : List UInt8} {w0 w w' : World} (h : Wrote b xs w w') (f : Fr (FS b w0) w0 w) : Fr (FS b w0) w0 w' := by
  refine ⟨h.low.os.trans f.os, h.low.tape.trans f.tape, h.low.output.trans f.output, Nat.le_trans f.size h.low.size, fun k hk hn => ?_⟩
  have e := f.block k hk hn
  rw [← e]
  rcases Nat.lt_or_ge k b with hb | hb
  · exact h.low.block k hb
  · have hkb : k ≠ b := fun hh => hn ⟨hb, .inl hh⟩
    have hlt : k < w.heap.size := Nat.lt_of_lt_of_le hk f.size
    rw [Array.getElem?_eq_getElem hlt]
    refine h.oth k _ (Array.getElem?_eq_getElem hlt) (fun hh => hkb (by injection hh)) fun c fz hc => hn ⟨hb, .inr ⟨c, fz, ?_⟩⟩
    rw [← e, Array.getElem?_eq_getElem hlt, hc]
theorem Wrote.mild {b : Nat} {xs : List UInt8} {w w' : World} (h : Wrote b xs w w') {G : List Nat} (hG : ∀ g ∈ G, g ≠ b ∧ ∃ c t fz, w.heap[g]? = some (.cells c t fz) ∧ t ≠ 5) : Mild G w w' := by
  refine ⟨h.low.size, fun g hg _ => ?_⟩
  obtain ⟨h1, c, t, fz, h2, h3⟩ := hG g hg
  rw [h2]
  exact h.oth g _ h2 (fun hh => h1 (by injection hh)) fun c' fz' hc => h3 (by injection hc)
theorem Wrote.of {b : Nat} {xs : List UInt8} {w w' : World} (h : Wr b xs w') (hb : b < w.heap.size) (f : Fr (FS b w) w w') : Wrote b xs w w' := by
  refine ⟨h, ⟨f.os, f.tape, f.output, f.size, fun k hk => f.block k (by omega) fun hn => by have := hn.1; omega⟩, fun k o hk hkb ho => ?_⟩
  have hlt := heap_lt hk
  rw [f.block k hlt fun hn => ?_]
  · exact hk
  · rcases hn.2 with h1 | ⟨c, fz, h1⟩
    · exact hkb (by rw [h1])
    · rw [hk] at h1; injection h1 with h1; exact ho c fz h1
theorem one_cells (x : UInt8) : bcs [x] = [.int .u8 (x.toNat : Int)] := rfl
theorem bcs_one (xs : List UInt8) : ∀ v ∈ bcs xs, v.oneCell' = true := flat_one fun _ _ => trivial
theorem writeByte_c {b : Nat} {xs : List UInt8} {w : World} (h : Wr b xs w) (x : UInt8) (hl : xs.length ≤ 1000000) :
    Calls Tryd.prog 36 #[.pointer (some ⟨b, 0, none⟩), .int .u8 (x.toNat : Int)] w fun e w' => e = .returned .nilIface ∧ Wrote b (xs ++ [x]) w w' := by
  refine (Tryd.Buffer_WriteByte_at 73 (fun _ => none) b b 0 (bcs xs) (x.toNat : Int) w h (Nat.le_of_lt h.lt) (bcs_one xs) (by rw [bcs_len]; omega)).mono ?_
  rintro e w' ⟨rfl, h1, h2, h3⟩
  refine ⟨rfl, ?_, h2, h3⟩
  show LibA.IsBuffer _ _ _ _ _ _ (bcs (xs ++ [x])) w'
  rw [bcs, List.flatMap_append]
  exact h1
theorem write_c {b : Nat} {xs ys : List UInt8} {w : World} {A : Option Addr} {n c : Nat} (h : Wr b xs w) (hl : xs.length ≤ 1000000) (s : Sl w (fun k => k ≠ b) (.slice A n c) ys) (hy : 0 < ys.length) (hy2 : ys.length ≤ 1000000) :
    Calls Tryd.prog 35 #[.pointer (some ⟨b, 0, none⟩), .slice A n c] w fun e w' => e = .returned (.tuple #[.int .i64 (n : Int), .nilIface]) ∧ Wrote b (xs ++ ys) w w' := by
  have hn := s.len
  obtain ⟨g, o, rfl, hg, hc⟩ := s.at_ hy
  refine (Tryd.Buffer_Write_at 73 (fun _ => none) b b 0 (bcs xs) (bcs ys) ⟨g, o, none⟩ n c w h (Nat.le_of_lt h.lt) (bcs_one xs) (by rw [bcs_len, hn]) hg ?_ (bcs_one ys) (by rw [bcs_len]; omega)).mono ?_
  · intro j v hj
    rw [bcs, flat_bytes, List.getElem?_map] at hj
    obtain ⟨x, hx, rfl⟩ := Option.map_eq_some_iff.1 hj
    obtain ⟨hlt, rfl⟩ := List.getElem?_eq_some_iff.1 hx
    obtain ⟨cs, hK, hcc⟩ := hc j hlt
    have hK : cs = [.int .u8 (ys[j].toNat : Int)] := hK
    subst hK
    have := hcc 0 _ rfl
    rw [add_plain]
    have e : (⟨g, o + j, none⟩ : Addr) = ⟨g, o + j * Rep.sz UInt8 + 0, none⟩ := by
      show (⟨g, o + j, none⟩ : Addr) = ⟨g, o + j * 1 + 0, none⟩
      rw [Nat.mul_one]; rfl
    rw [e]
    exact this
  · rintro e w' ⟨rfl, h1, h2, h3⟩
    refine ⟨rfl, ?_, h2, h3⟩
    show LibA.IsBuffer _ _ _ _ _ _ (bcs (xs ++ ys)) w'
    rw [bcs, List.flatMap_append]
    exact h1
/-- A new one. -/
theorem Wr.new {b : Nat} {w : World} (h : w.heap[b]? = some (.cells #[.slice none 0 0, .int .i64 0, .int .i8 0] 73 (0, 0))) : Wr b [] w := LibA.zero_isBuffer (Nat.le_refl _) (LibA.three_whole h)
/-- Its cells. -/
theorem Wr.cells {b : Nat} {xs : List UInt8} {w : World} (h : Wr b xs w) : ∃ (A : Option Addr) (n c : Nat) (i j : Int), w.heap[b]? = some (.cells #[.slice A n c, .int .i64 i, .int .i8 j] 73 (0, 0)) ∧ i = 0 ∧ OwnF w b 5 (.slice A n c) xs := by
  obtain ⟨_, v, lr, ⟨cs, hb, h0, h1, h2, hr⟩, ho, _⟩ := h
  have hcs : cs = #[v, .int .i64 0, .int .i8 lr] := by
    have h3 : cs[3]? = none := hr 3 (.inr (by omega))
    have hs : cs.size = 3 := by
      have a := Array.getElem?_eq_none_iff.1 h3
      have b := (Array.getElem?_eq_some_iff.1 h2).1
      omega
    apply Array.ext
    · simpa using hs
    · intro i hi hj
      have : i = 0 ∨ i = 1 ∨ i = 2 := by omega
      rcases this with rfl | rfl | rfl
      · exact (Array.getElem?_eq_some_iff.1 h0).2
      · exact (Array.getElem?_eq_some_iff.1 h1).2
      · exact (Array.getElem?_eq_some_iff.1 h2).2
  rw [bcs_len] at ho
  have o' : OwnF w b 5 v xs := ⟨bcs xs, ho, bcs_one xs, fun j hj => by rw [bcs, flat_at xs (fun _ _ => trivial) j hj]; exact Fixed.K trivial⟩
  obtain ⟨A, c, rfl, _⟩ := Own.slice o'
  exact ⟨A, _, c, 0, lr, by rw [hb, hcs], rfl, o'⟩
end Go.Proofs.YtfjenamomipmdaaDoor
