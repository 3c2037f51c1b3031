/- Opcode: contracts of what lays names, texts and numbers down: the others. -/
import Derived.Test.YtfjenamomipmdaaDoorOcA
import Derived.Laws.MakeOwn
import Derived.Laws.CopyRow
import Derived.Laws.IdiomCopy
import Derived.Laws.IdiomStrings
import Derived.Lib.AppendStr
import Derived.Laws.Shifts
set_option linter.unusedSimpArgs false
set_option linter.unusedVariables false
namespace Go.Proofs.YtfjenamomipmdaaDoor
open Go Go.RowKit Go.Proofs Go.Trc Go.Sx
open Go.Lib (strCells strCells_length run_append_own_string)
def flagB (b : Bool) : UInt8 := if b then 1 else 0
def cornB (a1 a2 a3 a4 a5 : Int) : List UInt8 := idB a1 a2 ++ (if a3 = 0 ∧ a4 = 0 ∧ a5 = 0 then [0] else u8 (a5 + 1) :: idB a3 a4)
def textB (s : ByteArray) : List UInt8 := u8 s.size :: s.data.toList
def numB (n : Int) : List UInt8 := [u8 (n / 2 ^ 56), u8 (n / 2 ^ 48), u8 (n / 2 ^ 40), u8 (n / 2 ^ 32), u8 (n / 2 ^ 24), u8 (n / 2 ^ 16), u8 (n / 2 ^ 8), u8 n]
theorem numB_len (n : Int) : (numB n).length = 8 := rfl
theorem u64_wrap (n : Int) : IntKind.u64.wrap n = n % 18446744073709551616 := by simp [IntKind.wrap, IntKind.bits, IntKind.signed]
theorem u8_cong {x y : Int} (h : x % 256 = y % 256) : u8 x = u8 y := by unfold u8; rw [h]
theorem num_byte (n : Int) (i : Nat) (hi : i < 8) : u8 (IntKind.u64.wrap n / 2 ^ (8 * (7 - i))) = (numB n)[i]'hi := by
  rw [u64_wrap]
  match i, hi with
  | 0, _ => exact u8_cong (by omega)
  | 1, _ => exact u8_cong (by omega)
  | 2, _ => exact u8_cong (by omega)
  | 3, _ => exact u8_cong (by omega)
  | 4, _ => exact u8_cong (by omega)
  | 5, _ => exact u8_cong (by omega)
  | 6, _ => exact u8_cong (by omega)
  | 7, _ => exact u8_cong (by omega)
theorem run_shr {w : World} {t : TypeId} (x k : Int) (j : Nat) (hk : k = j) (hj : j ≤ 64) : (binOp .shr t (.int .u64 x) (.int .i64 k)).run Tryd.prog w = .ok (.int .u64 (x / 2 ^ j)) w := by
  subst hk
  rw [binOp_shr, shift_shr_u64 .i64 x (j : Int) (by omega) (by omega)]
  rfl
/-- A row that a call laid. -/
theorem Rw.fresh {α : Type} [Rep α] {w0 w w' : World} {e : TypeId} {v : Value} {ys : List α} {G : List Nat} (f : Fr (fun b => some b = none) w0 w) (hG : ∀ g ∈ G, g < w.heap.size) (o : OwnF w' w.heap.size e v ys) (b : Below w.heap.size w w') :
    Rw none w0 w0.heap.size e w' v ys G := by
  refine ⟨o.base' (fun k hk => Nat.le_trans f.size (Own.base o k hk)), f.step b, fun k hk => ?_, fun g hg => Nat.lt_of_lt_of_le (hG g hg) b.size, Nat.le_refl _⟩
  rcases tail_own v with h0 | h0
  · rw [h0] at hk; cases hk
  · rw [h0] at hk
    have := Own.base o k hk
    exact ⟨.inr (Nat.le_trans f.size this), fun hm => by have := hG k hm; omega⟩
theorem tail_keep {w w' : World} {v : Value} {N : Nat} (g : w.grownBy w' (tail v)) (hN : N ≤ w.heap.size) : Keep N ((tail v).toList ++ []) w w' := fun k hk hn => g.block k (Nat.lt_of_lt_of_le hk hN) fun h => hn (by rw [← h]; simp)
theorem Rw.tails {α : Type} [Rep α] {S0 : Option Nat} {w0 w : World} {base : Nat} {e : TypeId} {v : Value} {xs : List α} {G : List Nat} (r : Rw S0 w0 base e w v xs G) : ∀ b ∈ (tail v).toList, b < w.heap.size ∧ b ∉ G := by
  intro b hb
  have hb : tail v = some b := by simpa using hb
  exact ⟨tail_lt r.own hb, (r.blk b hb).2⟩
theorem identPut_c (w : World) (s m : Int) (hm : 0 ≤ m ∧ m ≤ 9223372036854775807) :
    Calls Tryd.prog 91 #[.slice none 0 0, .agg #[.int .i64 s, .int .i64 m]] w (RetRow w 5 (idB s m)) := by
  refine identPut_sx _ (fun b => some b = none) w none 0 0 s m ?_
  intro g5 hg5 w1 f1 b1 lo5 t5 w2 f2 b2
  refine ⟨none, 0, 0, fun w' _ => by kernel_rfl, ?_⟩
  intro g10 hg10 w3 f3 b3 lo10 t10
  have r0 : Rw none w w.heap.size 5 w3 (.slice none 0 0) ([] : List UInt8) [g10, g5] := Rw.nil (fr_none f3) (by
    intro k hk
    simp only [List.mem_cons, List.mem_nil_iff, or_false] at hk
    have := heap_lt t5; have := b2.size; have := b3.size
    rcases hk with rfl | rfl
    · exact heap_lt t10
    · omega)
  obtain ⟨w4, A4, n4, c4, hr4, m4, r4⟩ := r0.append 22 22 (.int .u8 0) 1 Tryd.underlying22 infoB1 rfl (arg_b (idB s m) 4 rfl _ (idB_cells s m hm) t10 (by omega)) (by simp [idB]) (by simp [idB])
  exact ⟨w4, A4, n4, c4, hr4, m4, r4.ret (by simp)⟩
theorem ref10flag_c (w : World) (b : Bool) : Calls Tryd.prog 43 #[.bool b] w (Ret (.int .u8 ((flagB b).toNat : Int)) w) :=
  ref10flag_sx _ (fun _ => False) w b ⟨fun h => ret_leaf (Fr.refl _ _) (by rw [h]; rfl), fun h => ret_leaf (Fr.refl _ _) (by rw [h]; rfl)⟩
set_option maxHeartbeats 1000000 in
theorem ref10corner_c {w : World} {ok : Nat → Prop} {A : Option Addr} {n c : Nat} {xs : List UInt8} (h : Sl w ok (.slice A n c) xs) (hl : n ≤ 90000) (a1 a2 a3 a4 a5 : Int) (h2 : 0 ≤ a2 ∧ a2 ≤ 9223372036854775807) (h4 : 0 ≤ a4 ∧ a4 ≤ 9223372036854775807) (h5 : 0 ≤ a5 ∧ a5 ≤ 1) :
    Calls Tryd.prog 41 #[.slice A n c, .agg #[.int .i64 a1, .int .i64 a2, .int .i64 a3, .int .i64 a4, .int .i64 a5]] w (RetRow w 5 (xs ++ cornB a1 a2 a3 a4 a5)) := by
  have hn := h.len
  refine ref10corner_sx _ (fun b => some b = none) w A n c a1 a2 a3 a4 a5 ?_
  intro g8 hg8 w1 f1 b1 lo8 t8
  refine (ref01Put_c (h.below b1) (by omega) a1 a2 h2).mono ?_
  rintro e w2 ⟨A9, n10, c11, rfl, o2, b2⟩
  have l2 : (xs ++ idB a1 a2).length = n + 4 := by rw [List.length_append, hn]; rfl
  have r2 : Rw none w w.heap.size 5 w2 (.slice A9 n10 c11) (xs ++ idB a1 a2) [g8] := Rw.fresh f1 (by intro k hk; simp only [List.mem_singleton] at hk; subst hk; exact heap_lt t8) o2 b2
  refine ⟨A9, n10, c11, rfl, ok_ret b2 f1, _, eql_dart .., fun hb => ?_, fun hb => ?_⟩
  · intro g13 hg13 w3 f3 b3 lo3 t3
    have r3 := r2.on b3 [g13] (by simp only [List.mem_singleton]; rintro _ rfl; exact ⟨lo3, heap_lt t3⟩)
    obtain ⟨w4, A4, n4, c4, hr4, m4, r4⟩ := r3.append 22 22 (.int .u8 0) 1 Tryd.underlying22 infoB1 rfl (arg_b [0] 1 rfl _ rfl t3 (by omega)) (by rw [l2]; simp; omega) (by rw [l2]; simp; omega)
    exact ⟨w4, A4, n4, c4, hr4, m4, r4.ret (by unfold cornB; rw [if_pos (of_decide_eq_true hb), List.append_assoc])⟩
  · refine ⟨_, Rw.tails r2, ?_⟩
    intro g14 hg14 w3 f3 b3 lo3 t3
    have r3 := r2.on b3 [g14] (by simp only [List.mem_singleton]; rintro _ rfl; exact ⟨lo3, heap_lt t3⟩)
    have e1 : ([u8 (a5 + 1)] : List UInt8).flatMap Fixed.cells = [.int .u8 (IntKind.u8.wrap (IntKind.i64.wrap (a5 + 1)))] := by
      rw [wrap_in (by omega), u8_wrap]; rfl
    obtain ⟨w4, A4, n4, c4, hr4, m4, r4, g4, -⟩ := r3.append2 22 22 (.int .u8 0) 1 Tryd.underlying22 infoB1 rfl (arg_b [u8 (a5 + 1)] 1 rfl _ e1 t3 (by omega)) (by rw [l2]; simp; omega) (by rw [l2]; simp; omega)
    refine ⟨w4, A4, n4, c4, hr4, m4, tail_keep g4 b3.size, ?_⟩
    refine (ref01Put_c r4.sl (by have := r4.sl.len; rw [List.length_append, l2] at this; simp at this; omega) a3 a4 h4).mono ?_
    rintro e w5 ⟨A5, n5, c5, rfl, o5, b5⟩
    refine ⟨A5, n5, c5, rfl, ok_ret b5 r4.fr, ?_⟩
    exact (Rw.fresh (G := []) r4.fr (by simp) o5 b5).ret (by unfold cornB; rw [if_neg (of_decide_eq_false hb)]; simp)
theorem clip_c (w : World) : Calls Tryd.prog 92 #[.slice none 0 0] w fun e w' => e = .returned (.slice none 0 0) ∧ w' = w :=
  clip_sx _ (fun _ => False) w none 0 0 ⟨none, 0, 0, by kernel_rfl, rfl, rfl⟩
theorem str_cells (s : ByteArray) : strCells s = s.data.toList.flatMap Fixed.cells := by rw [flat_bytes]; rfl
theorem infoB2 : ∃ i, Tryd.prog.info? 5 = some i ∧ i.zero = some (.int .u8 0) ∧ i.size = 1 ∧ i.bytes = 1 := info_parts infoB1
/-- 'append(v, s...)', v one's own, s a string. -/
theorem own_append_s {w : World} {base : Nat} {v : Value} {xs : List UInt8} (h : OwnF w base 5 v xs) (s : ByteArray) (hb : base ≤ w.heap.size) (hl : xs.length + s.size ≤ 100000) :
    ∃ w' A n c, (Builtin.append_ #[22, 9] 22 #[v, .string s]).run Tryd.prog w = .ok (.slice A n c) w' ∧ OwnF w' base 5 (.slice A n c) (xs ++ s.data.toList) ∧ w.grownBy w' v.ownBlock := by
  obtain ⟨i, hi, hz, hsz, hby⟩ := infoB2
  obtain ⟨cs, h1, h2, h3⟩ := h
  have hcl : cs.length = xs.length := by rw [h1.1]; exact Nat.mul_one _
  obtain ⟨v', w', hr, o, g, -⟩ := run_append_own_string (P := Tryd.prog) w base 22 9 22 5 i Tryd.underlying22 Tryd.underlying9 hi hz hsz hby v xs.length cs h1 s (by unfold maxLen; omega) (by omega) hb
  have hss : (s.data.toList).length = s.size := by simp
  have o' : OwnF w' base 5 v' (xs ++ s.data.toList) := by
    refine ⟨cs ++ strCells s, ?_, ?_, ?_⟩
    · rw [List.length_append, hss]; exact o
    · intro u hu
      rcases List.mem_append.1 hu with hu | hu
      · exact h2 u hu
      · rw [str_cells] at hu; exact flat_one (fun _ _ => trivial) u hu
    · intro j hj
      show ((cs ++ strCells s).drop (j * 1)).take 1 = [.int .u8 ((xs ++ s.data.toList)[j].toNat : Int)]
      rw [Nat.mul_one]
      by_cases hj' : j < xs.length
      · have h0 : (cs.drop (j * 1)).take 1 = [.int .u8 (xs[j].toNat : Int)] := h3 j hj'
        rw [Nat.mul_one] at h0
        rw [List.drop_append_of_le_length (by omega), List.take_append_of_le_length (by simp; omega), h0, List.getElem_append_left hj']
      · have hjs : j - xs.length < s.data.toList.length := by rw [List.length_append] at hj; omega
        have h0 := flat_at s.data.toList (fun _ _ => trivial) (j - xs.length) hjs
        rw [← str_cells] at h0
        have h0 : ((strCells s).drop ((j - xs.length) * 1)).take 1 = [.int .u8 ((s.data.toList[j - xs.length]).toNat : Int)] := h0
        rw [Nat.mul_one] at h0
        rw [List.drop_append, List.drop_eq_nil_of_le (by omega), List.nil_append, hcl, h0, List.getElem_append_right (by omega)]
  obtain ⟨A, c, rfl, _⟩ := Own.slice o'
  exact ⟨w', A, _, c, hr, o', g⟩
set_option maxHeartbeats 1000000 in
theorem packText_c (w : World) (s : ByteArray) (hs : s.size ≤ 90000) : Calls Tryd.prog 68 #[.slice none 0 0, .string s] w (RetRow w 5 (textB s)) := by
  refine packText_sx _ (fun b => some b = none) w none 0 0 s ?_
  refine (clip_c w).mono ?_
  rintro e w1 ⟨rfl, rfl⟩
  refine ⟨none, 0, 0, rfl, ⟨Fr.refl _ _, mild_nil (Nat.le_refl _)⟩, ?_⟩
  intro g7 hg7 w2 f2 b2 lo7 t7
  have r2 : Rw none w1 w1.heap.size 5 w2 (.slice none 0 0) ([] : List UInt8) [g7] := Rw.nil (fr_none f2) (by intro k hk; simp only [List.mem_singleton] at hk; subst hk; exact heap_lt t7)
  obtain ⟨w3, A3, n3, c3, hr3, m3, r3, g3, ob, -⟩ := r2.append2 22 22 (.int .u8 0) 1 Tryd.underlying22 infoB1 rfl (arg_b [u8 s.size] 1 rfl _ (by rw [u8_wrap]; rfl) t7 (by omega)) (by simp) (by simp)
  refine ⟨w3, A3, n3, c3, hr3, m3, ?_⟩
  obtain ⟨w4, A4, n4, c4, hr4, o4, g4⟩ := own_append_s r3.own s (Nat.le_trans b2.size g3.size) (by simp; omega)
  have hk : ∀ k, (Value.slice A3 n3 c3).ownBlock = some k → k = w2.heap.size := fun k hk => by
    rcases ob k hk with h | h
    · cases h
    · exact h
  have f4 : Fr (fun b => some b = none) w1 w4 := ⟨g4.os.trans r3.fr.os, g4.tape.trans r3.fr.tape, g4.output.trans r3.fr.output, Nat.le_trans r3.fr.size g4.size, fun k hlt hn => (g4.block k (Nat.lt_of_lt_of_le hlt r3.fr.size) fun h => by have := hk k h.symm; have := b2.size; omega).trans (r3.fr.block k hlt hn)⟩
  refine ⟨w4, A4, n4, c4, hr4, ⟨f4, grown_mild g4 fun b hb h => by simp only [List.mem_singleton] at hb; subst hb; have := hk _ h.symm; have := heap_lt t7; omega⟩, A4, n4, c4, rfl, ?_, fr_below (fr_none f4)⟩
  have : ([] ++ [u8 s.size] ++ s.data.toList : List UInt8) = textB s := rfl
  rw [← this]
  exact o4
/-- '[]byte(s)' -/
theorem conv_bytes (w : World) (s : ByteArray) (hs : s.size ≤ 9223372036854775807) : ∃ w' A n c, (convert 9 22 (.string s)).run Tryd.prog w = .ok (.slice A n c) w' ∧ Sl w' (fun b => w.heap.size ≤ b) (.slice A n c) s.data.toList ∧ Below w.heap.size w w' := by
  have hr := run_bytes_of_string (P := Tryd.prog) w 9 22 5 s Tryd.underlying9 Tryd.underlying22 Tryd.underlying5
  have hss : (s.data.toList).length = s.size := by simp
  refine ⟨_, _, _, _, hr, ?_, ⟨rfl, rfl, rfl, by simp, fun k hk => Below.heap_alloc w.drew _ k hk⟩⟩
  have hc := grownCap_ge w s.size 0 5
  refine ⟨some ⟨w.heap.size, 0, none⟩, grownCap w s.size 0 5, by rw [hss], by rw [hss]; exact hc, grownCap_le_maxLen w s.size 0 5 hs, (fun h => by cases h), fun _ => ⟨_, _, rfl, Nat.le_refl _, ?_⟩⟩
  refine Cells.of_block (heap_alloc_new w.drew _) (s.data.toList.flatMap Fixed.cells) (fun j hj => ?_) fun j hj => by rw [flat_at _ (fun _ _ => trivial) j hj]; exact Fixed.K trivial
  rw [flat_bytes] at hj ⊢
  have hj' : j < s.data.size := by simpa using hj
  rw [bytesRow_at s _ j hj', List.getElem?_map, Array.getElem?_toList, Array.getElem?_eq_getElem hj']
  rfl
set_option maxHeartbeats 1000000 in
theorem ref08Text_c {w : World} {ok : Nat → Prop} {A : Option Addr} {n c : Nat} {xs : List UInt8} (h : Sl w ok (.slice A n c) xs) (hl : n ≤ 90000) (s : ByteArray) (hs : s.size ≤ 1000) :
    Calls Tryd.prog 42 #[.slice A n c, .string s] w (RetRow w 5 (xs ++ textB s)) := by
  have hn := h.len
  refine ref08Text_sx _ (fun b => some b = none) w A n c s ?_
  intro g4 hg4 w1 f1 b1 lo4 t4
  have r1 : Rw none w w.heap.size 5 w1 (.slice (some ⟨g4, 0, none⟩) 0 0) ([] : List UInt8) [g4] := Rw.first (fr_none f1) hg4 t4 (by simp; exact heap_lt t4)
  obtain ⟨w2, A2, n2, c2, hr2, m2, r2⟩ := r1.append 22 22 (.int .u8 0) 1 Tryd.underlying22 infoB1 rfl (h.below b1).arg (by simp; omega) (by simp; omega)
  refine ⟨w2, A2, n2, c2, hr2, m2, ?_⟩
  intro g8 hg8 w3 f3 b3 lo8 t8
  have r3 := r2.on b3 [g8] (by simp only [List.mem_singleton]; rintro _ rfl; exact ⟨lo8, heap_lt t8⟩)
  obtain ⟨w4, A4, n4, c4, hr4, m4, r4⟩ := r3.append 22 22 (.int .u8 0) 1 Tryd.underlying22 infoB1 rfl (arg_b [u8 s.size] 1 rfl _ (by rw [u8_wrap]; rfl) t8 (by omega)) (by simp; omega) (by simp; omega)
  refine ⟨w4, A4, n4, c4, hr4, m4, ?_⟩
  obtain ⟨w5, A5, n5, c5, hr5, s5, b5⟩ := conv_bytes w4 s (by omega)
  have r5 := r4.below b5
  refine ⟨w5, A5, n5, c5, hr5, ok_ret b5 r4.fr, ?_⟩
  have hss : (s.data.toList).length = s.size := by simp
  obtain ⟨w6, A6, n6, c6, hr6, m6, r6⟩ := r5.append 22 22 (.int .u8 0) 1 Tryd.underlying22 infoB1 rfl s5.arg (by simp; omega) (by simp; omega)
  exact ⟨w6, A6, n6, c6, hr6, m6, r6.ret (by simp [textB])⟩
set_option maxHeartbeats 1000000 in
theorem ref08Num_c {w : World} {ok : Nat → Prop} {A : Option Addr} {n c : Nat} {xs : List UInt8} (h : Sl w ok (.slice A n c) xs) (hl : n ≤ 90000) (m : Int) :
    Calls Tryd.prog 44 #[.slice A n c, .int .i64 m] w (RetRow w 5 (xs ++ numB m)) := by
  have hn := h.len
  refine ref08Num_sx _ (fun b => some b = none) w A n c m ?_
  intro g4 hg4 w1 f1 b1 lo4 t4
  have r1 : Rw none w w.heap.size 5 w1 (.slice (some ⟨g4, 0, none⟩) 0 0) ([] : List UInt8) [g4] := Rw.first (fr_none f1) hg4 t4 (by simp; exact heap_lt t4)
  obtain ⟨w2, A2, n2, c2, hr2, m2, r2⟩ := r1.append 22 22 (.int .u8 0) 1 Tryd.underlying22 infoB1 rfl (h.below b1).arg (by simp; omega) (by simp; omega)
  refine ⟨w2, A2, n2, c2, hr2, m2, fun A n c i w3 => ∃ k : Nat, i = 7 - (k : Int) ∧ k ≤ 8 ∧ Rw none w w.heap.size 5 w3 (.slice A n c) (xs ++ (numB m).take k) [g4], fun _ _ _ i _ => (i + 1).toNat, ⟨0, rfl, by omega, by simpa using r2⟩, ?_⟩
  rintro A8 n9 n10 _ w3 f3 ⟨k, rfl, hk, r⟩
  refine ⟨fun hge => ?_, fun hlt => ?_⟩
  · have hk8 : k < 8 := by omega
    refine ⟨_, run_shr _ _ (8 * (7 - k)) (by rw [wrap_in (by omega)]; omega) (by omega), ?_⟩
    intro g13 hg13 w4 f4 b4 lo13 t13
    have r4 := r.on b4 [g13] (by simp only [List.mem_singleton]; rintro _ rfl; exact ⟨lo13, heap_lt t13⟩)
    have hlen : (xs ++ (numB m).take k).length = n + k := by rw [List.length_append, hn, List.length_take, numB_len]; omega
    obtain ⟨w5, A5, n5, c5, hr5, m5, r5⟩ := r4.append 22 22 (.int .u8 0) 1 Tryd.underlying22 infoB1 rfl (arg_b [(numB m)[k]'hk8] 1 rfl _ (by rw [u8_wrap, num_byte m k hk8]; rfl) t13 (by omega)) (by rw [hlen]; simp; omega) (by rw [hlen]; simp; omega)
    refine ⟨w5, A5, n5, c5, hr5, m5, ⟨k + 1, by rw [wrap_in (by omega)]; omega, hk8, ?_⟩, by dsimp only; rw [wrap_in (by omega)]; omega⟩
    rw [List.take_add_one, List.getElem?_eq_getElem (by rw [numB_len]; exact hk8), ← List.append_assoc]
    exact r5.less' (by intro g hg; simp only [List.mem_append]; exact .inr hg)
  · have hk8 : k = 8 := by omega
    subst hk8
    exact r.ret (by rw [List.take_of_length_le (by rw [numB_len]; omega)])
/-- A block of bytes. -/
def Bk (w : World) (g : Nat) (ys : List UInt8) : Prop := w.heap[g]? = some (.cells (ys.flatMap Fixed.cells).toArray 5 (0, 0))
theorem Bk.mk {w : World} {g : Nat} {ys : List UInt8} {C : Array Value} (h : w.heap[g]? = some (.cells C 5 (0, 0))) (hC : C.toList = ys.map fun x => Value.int .u8 (x.toNat : Int)) : Bk w g ys := by
  unfold Bk
  rw [h, flat_bytes, ← hC]
theorem Bk.set {w : World} {g : Nat} {ys : List UInt8} (h : Bk w g ys) (k : Nat) (hk : k < ys.length) (b : UInt8) :
    ∃ w', (Instr.storeAt 5 (.pointer (some ⟨g, k, none⟩)) (.int .u8 (b.toNat : Int))).run Tryd.prog w = .ok () w' ∧ Bk w' g (ys.set k b) ∧ w.grownBy w' (some g) := by
  obtain ⟨w', hr, hg, gr⟩ := store_row (P := Tryd.prog) (w := w) 5 (by kernel_rfl) (v := .int .u8 (b.toNat : Int)) (o := k) h (by rw [flat_bytes]; simpa using hk) rfl rfl
  refine ⟨w', hr, Bk.mk hg ?_, gr⟩
  rw [flat_bytes]
  simp [List.map_set]
theorem fr_new {w w' : World} {g : Nat} {w0 : World} (f : Fr (fun _ => False) w0 w) (gr : w.grownBy w' (some g)) (h : w0.heap.size ≤ g) : Fr (fun _ => False) w0 w' := grown_fr (B := 0) gr f (by intro k hk; injection hk with hk; omega)
set_option maxHeartbeats 1000000 in
theorem packNum_c {w : World} {ok : Nat → Prop} {A : Option Addr} {n c : Nat} {xs : List UInt8} (h : Sl w ok (.slice A n c) xs) (hl : n ≤ 90000) (m : Int) :
    Calls Tryd.prog 53 #[.slice A n c, .int .i64 m] w (RetRow w 5 (xs ++ numB m)) := by
  have hn := h.len
  obtain ⟨i, hi, hz, hsz, hby⟩ := infoB2
  have hm := run_make (P := Tryd.prog) w 22 5 i _ Tryd.underlying22 hi hz .i64 .i64 ((n + 8 : Nat) : Int) ((n + 8 : Nat) : Int) (by omega) (by omega) (by rw [hby]; omega) (by omega)
  rw [hsz] at hm
  simp only [Int.toNat_natCast, Nat.mul_one] at hm
  have hb1 : Below w.heap.size w (w.alloc (.cells (madeCells (Value.int .u8 0).cells (n + 8)) 5)) := below_alloc w _
  have k1 : Bk (w.alloc (.cells (madeCells (Value.int .u8 0).cells (n + 8)) 5)) w.heap.size (List.replicate (n + 8) 0) := by
    refine Bk.mk (heap_alloc_new w _) ?_
    apply List.ext_getElem
    · simp [madeCells]
    · intro j h1 h2
      simp [madeCells, Value.cells, Nat.mod_one]
  refine packNum_sx _ (fun _ => False) w A n c m ⟨_, _, _, _, by rw [wrap_in (by omega)]; exact hm, ok_below (Fr.refl _ _) hb1, ?_⟩
  generalize w.alloc (.cells (madeCells (Value.int .u8 0).cells (n + 8)) 5) = w1 at hb1 k1 ⊢
  have f1 : Fr (fun _ => False) w w1 := (Fr.refl _ _).step hb1
  obtain ⟨w2, q, hr2, k2, g2⟩ : ∃ w2 q, (Builtin.copy_ #[22, 22] 3 #[.slice (some ⟨w.heap.size, 0, none⟩) (n + 8) (n + 8), .slice A n c]).run Tryd.prog w1 = .ok (.int .i64 q) w2 ∧ Bk w2 w.heap.size (xs ++ List.replicate 8 0) ∧ w1.grownBy w2 (some w.heap.size) := by
    by_cases h0 : n = 0
    · subst h0
      have := run_copy_none (P := Tryd.prog) w1 22 22 3 5 (some ⟨w.heap.size, 0, none⟩) A 8 8 0 c Tryd.underlying22 (by rw [hi]; simp [hsz]) (by simp)
      have hx : xs = [] := List.eq_nil_of_length_eq_zero hn.symm
      subst hx
      exact ⟨w1, _, this, k1, World.grownBy.refl _ _⟩
    · obtain ⟨b, o, rfl, hok, hc⟩ := (h.below hb1).at_ (by omega)
      have hsrc : ∀ j v, (xs.flatMap Fixed.cells)[j]? = some v → w1.cell? ((⟨b, o, none⟩ : Addr).add j) = some v := by
        intro j v hj
        rw [flat_bytes, List.getElem?_map] at hj
        obtain ⟨x, hx, rfl⟩ := Option.map_eq_some_iff.1 hj
        obtain ⟨hlt, rfl⟩ := List.getElem?_eq_some_iff.1 hx
        obtain ⟨cs, hK, hcc⟩ := hc j hlt
        have hK : cs = [.int .u8 (xs[j].toNat : Int)] := hK
        subst hK
        have := hcc 0 _ rfl
        rw [add_plain]
        have e : (⟨b, o + j, none⟩ : Addr) = ⟨b, o + j * Rep.sz UInt8 + 0, none⟩ := by
          show (⟨b, o + j, none⟩ : Addr) = ⟨b, o + j * 1 + 0, none⟩
          rw [Nat.mul_one]; rfl
        rw [e]
        exact this
      have hfl : (xs.flatMap Fixed.cells).length = n := by rw [flat_bytes]; simp [hn]
      have := run_copy_row (P := Tryd.prog) w1 22 22 3 5 w.heap.size 0 (n + 8) (n + 8) ⟨b, o, none⟩ n c _ 5 (xs.flatMap Fixed.cells) Tryd.underlying22 (by rw [hi]; simp [hsz]) k1 (by rw [hfl]; exact (Nat.min_eq_left (by omega)).symm) hsrc (by rw [hfl, flat_bytes]; simp) (flat_one fun _ _ => trivial)
      refine ⟨_, _, this, ?_, ⟨rfl, rfl, rfl, by simp, fun j _ hne => setRow_other w1 _ j _ (fun h => hne (by rw [h]))⟩⟩
      refine Bk.mk (setRow_heap w1 _ _ _ _ _ k1) ?_
      simp only [List.take_zero, List.nil_append, Nat.zero_add, hfl, List.map_append]
      rw [flat_bytes, flat_bytes]
      simp [List.drop_replicate]
  have f2 := fr_new f1 g2 (Nat.le_refl _)
  refine ⟨w2, q, hr2, ⟨f2, mild_nil g2.size⟩, fun i w3 => ∃ k : Nat, i = (k : Int) ∧ k ≤ 8 ∧ Bk w3 w.heap.size (xs ++ (numB m).take k ++ List.replicate (8 - k) 0), fun i _ => (8 - i).toNat, ⟨0, rfl, by omega, by simpa using k2⟩, ?_⟩
  rintro _ w3 f3 ⟨k, rfl, hk, r⟩
  refine ⟨fun hlt => ?_, fun hge => ?_⟩
  · have hk8 : k < 8 := by omega
    refine ⟨_, run_shr _ _ (8 * (7 - k)) (by rw [wrap_in (x := 7 - (k : Int)) (by omega), wrap_in (by omega)]; omega) (by omega), ?_⟩
    rw [wrap_in (x := (n : Int) + k) (by omega)]
    refine ⟨by omega, by omega, w.heap.size, 0, rfl, ?_⟩
    have hto : 0 + ((n : Int) + (k : Int)).toNat * 1 + 0 = n + k := by omega
    rw [hto, u8_wrap, num_byte m k hk8]
    obtain ⟨w4, hr4, k4, g4⟩ := r.set (n + k) (by simp [hn, numB_len]; omega) ((numB m)[k]'hk8)
    refine ⟨w4, hr4, ⟨fr_new f3 g4 (Nat.le_refl _), mild_nil g4.size⟩, ⟨k + 1, by rw [wrap_in (by omega)]; omega, hk8, ?_⟩, by dsimp only; rw [wrap_in (by omega)]; omega⟩
    have hpl : (xs ++ (numB m).take k).length = n + k := by rw [List.length_append, hn, List.length_take, numB_len]; omega
    rw [List.take_add_one, List.getElem?_eq_getElem (by rw [numB_len]; exact hk8), ← List.append_assoc]
    have hrep : List.replicate (8 - k) (0 : UInt8) = 0 :: List.replicate (8 - (k + 1)) 0 := by rw [show 8 - k = (8 - (k + 1)) + 1 by omega]; rfl
    rw [hrep, List.set_append_right _ _ (by omega), hpl, Nat.sub_self] at k4
    refine Eq.mp (congrArg (Bk w4 w.heap.size) ?_) k4
    simp only [Option.toList, List.append_assoc, List.cons_append, List.nil_append, List.set_cons_zero]
    rfl
  · have hk8 : k = 8 := by omega
    subst hk8
    rw [Nat.sub_self, List.take_of_length_le (by rw [numB_len]; omega)] at r
    refine ⟨_, _, _, rfl, ?_, fr_below f3⟩
    have hlen : n + 8 = (xs ++ numB m).length := by rw [List.length_append, numB_len, hn]
    exact OwnF.cells _ (n + 8) hlen (Nat.le_refl _) (by simpa [Bk] using r) (by unfold maxLen; omega) (fun _ _ => trivial)
end Go.Proofs.YtfjenamomipmdaaDoor
