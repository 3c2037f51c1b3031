/- OpcodeTurned: the walk. -/
import Derived.Test.YtfjenamomipmdaaDoorOcBk
set_option linter.unusedSimpArgs false
set_option linter.unusedVariables false
namespace Go.Proofs.YtfjenamomipmdaaDoor
open Go Go.RowKit Go.Proofs Go.Trc Go.Sx
theorem xor_u8 (x y : UInt8) : bits .xor .u8 (x.toNat : Int) (y.toNat : Int) = ((x ^^^ y).toNat : Int) := by
  show IntKind.u8.wrap ((BitVec.ofInt 8 (x.toNat : Int) ^^^ BitVec.ofInt 8 (y.toNat : Int)).toNat : Int) = _
  have h : ∀ z : UInt8, BitVec.ofInt 8 (z.toNat : Int) = z.toBitVec := fun z => by rw [BitVec.ofInt_natCast]; show BitVec.ofNat 8 z.toBitVec.toNat = z.toBitVec; simp
  rw [h, h, ← UInt8.toBitVec_xor]
  show IntKind.u8.wrap ((x ^^^ y).toNat : Int) = _
  have hb := (x ^^^ y).toNat_lt
  rw [u8_wrap, u8_nat]
  omega
theorem xor_same {x y : UInt8} (h : x ^^^ y = x) : y = 0 := by
  have : x ^^^ (x ^^^ y) = x ^^^ x := by rw [h]
  rwa [← UInt8.xor_assoc, UInt8.xor_self, UInt8.zero_xor] at this
theorem turn_same {l : List UInt8} {k : Nat} (hk : k < l.length) {y : UInt8} : l.set k (l[k] ^^^ y) = l ↔ y = 0 := by
  constructor
  · intro h
    have := congrArg (fun m => m[k]?) h
    simp [hk] at this
    exact xor_same this
  · rintro rfl
    rw [UInt8.xor_zero, List.set_getElem_self]
set_option maxHeartbeats 4000000 in
theorem opcodeTurned_wk {w : World} {ok : Nat → Prop} {A : Option Addr} {n c : Nat} {l : List OpV} (h : Sl w ok (.slice A n c) l) (i3 : Int) (y : UInt8) :
    Calls Tryd.prog 8 #[.agg #[.slice A n c], .int .i64 i3, .int .u8 (y.toNat : Int)] w (Ret (.bool true) w) := by
  refine opcodeTurned_sx _ (fun _ => False) w A n c i3 (y.toNat : Int) ?_
  intro g5 hg5 w1 f1 b1 lo5 t5
  refine (shown10_c w1).mono ?_
  rintro e w2 ⟨rfl, b2⟩
  have f2 := f1.step b2
  refine ⟨_, rfl, ok_ret b2 f1, ?_⟩
  refine (few10_c (h.below (fr_below f2))).mono ?_
  rintro e w3 ⟨A7, n8, c9, rfl, o3, b3⟩
  have f3 := f2.step b3
  have l5 := heap_lt t5
  refine ⟨A7, n8, c9, rfl, ok_ret b3 f2, fun w4 f4 q4 => ?_⟩
  have o4 := past_old o3 q4 (by have := b2.size; omega)
  refine (opcodePut_c (Sl.nil0 w4 (fun _ => True)) (by omega) o4.sl).mono ?_
  rintro e w5 ⟨A10, n11, c12, rfl, o5, b5⟩
  have f5 := f4.step b5
  have h11 := o5.sl.len
  refine ⟨A10, n11, c12, _, rfl, ok_ret b5 f4, fun hne => ret_leaf f5 rfl, fun he => ⟨fun hn => ret_leaf f5 rfl, fun h0 => ⟨fun hn => ret_leaf f5 rfl, fun hlt => ?_⟩⟩⟩
  obtain ⟨ma, pa⟩ := put_ok he
  rw [pa] at o5 h11
  have h11 : n11 = (editB (fewV l)).length := h11
  have la := editB_len ma
  generalize hE : editB (fewV l) = E at o5 h11 la
  obtain ⟨k, rfl⟩ : ∃ k : Nat, i3 = k := ⟨i3.toNat, by omega⟩
  have hk : k < E.length := by omega
  obtain ⟨p, o, hA, hp, hc⟩ := byte_at o5.sl k hk
  obtain ⟨A', c', he', hA'⟩ := Own.slice o5
  simp only [Value.slice.injEq] at he'
  rw [← he'.1] at hA'
  obtain ⟨g, hg, hgb, hgl⟩ := hA' _ hA
  injection hg with hg1 hg2
  subst hg1; subst hg2
  subst hA
  obtain ⟨i, hi, hz, hsz, hby⟩ := infoB2
  obtain ⟨w6, hr6, o6, gr6⟩ := own_set_byte (P := Tryd.prog) (t := 5) hi hsz o5 k hk (E[k] ^^^ y)
  have f6 : Fr (fun _ => False) w w6 := by
    refine ⟨gr6.os.trans f5.os, gr6.tape.trans f5.tape, gr6.output.trans f5.output, Nat.le_trans f5.size gr6.size, fun j hj hn => (gr6.block j (Nat.lt_of_lt_of_le hj f5.size) fun hh => ?_).trans (f5.block j hj hn)⟩
    injection hh with hh
    have := f4.size
    omega
  have m6 : Mild [g5] w5 w6 := grown_mild gr6 fun b hb hh => by
    injection hh with hh
    simp only [List.mem_singleton] at hb
    have := b2.size; have := b3.size; have := q4.size
    omega
  refine ⟨by omega, hlt, p, 0, rfl, _, by simpa using hc, by omega, hlt, p, 0, rfl, ?_⟩
  rw [xor_u8]
  have ht : 0 + ((k : Int)).toNat * 1 + 0 = k := by omega
  rw [ht]
  refine ⟨w6, hr6, ⟨f6, m6⟩, ?_⟩
  have o4a : OwnF w6 w2.heap.size 39 (.slice A7 n8 c9) (fewV l) := (o4.below b5).keep gr6 (.inr fun hh => by
    have := (Own.lt o4 p hh).2
    omega)
  have h6 := o6.sl.len
  have hset : (E.set k (E[k] ^^^ y)).length = E.length := List.length_set
  refine (opcodeWhole_c o6.sl (by omega)).mono ?_
  rintro e w7 ⟨A19, n20, c21, rfl, o7, b7⟩
  have f7 := f6.step b7
  have h20 := o7.sl.len
  refine ⟨A19, n20, c21, _, rfl, ok_ret b7 f6, fun g23 hg23 => ⟨fun hne => ⟨fun _ => ⟨fun h2 => ⟨fun hz w8 f8 b8 _ _ => ret_leaf f8 ?_, fun hz => ?_⟩, fun h2 => ?_⟩, fun hb => by cases hb⟩, fun he8 w8 f8 b8 lo8 t8 => ?_⟩⟩
  · have hy : y ≠ 0 := by
      rintro rfl
      have : E.set k (E[k] ^^^ 0) = E := turn_same hk |>.2 rfl
      rw [this, ← hE, whole_put ma] at hne
      exact hne rfl
    have : (y.toNat : Int) ≠ 0 := fun hh => hy (UInt8.toNat_inj.1 (by show y.toNat = 0; omega))
    simp only [Value.bool.injEq, bne_iff_ne, ne_eq]
    exact this
  · rcases whole_else (E.set k (E[k] ^^^ y)) with ⟨x, hx⟩ | hx
    · rw [hx] at hne; exact absurd rfl hne
    · rw [hx] at h20; exact absurd (by rw [h20]; rfl) hz
  · rcases whole_else (E.set k (E[k] ^^^ y)) with ⟨x, hx⟩ | hx
    · rw [hx] at hne; exact absurd rfl hne
    · rw [hx] at h2; exact absurd rfl h2
  · obtain ⟨x, hx⟩ : ∃ x, wholeV (E.set k (E[k] ^^^ y)) = (x, 0) := by
      rcases whole_else (E.set k (E[k] ^^^ y)) with ⟨x, hx⟩ | hx
      · exact ⟨x, hx⟩
      · rw [hx] at he8; exact absurd he8 (by decide)
    obtain ⟨ex, mx⟩ := whole_take hx
    rw [hx] at o7
    have o8 := o7.below b8
    have hpx : putV [] x = (editB x, 0) := by unfold putV; rw [if_pos mx]; rfl
    refine (opcodePut_c (Sl.nil0 w8 (fun _ => True)) (by omega) o8.sl).mono ?_
    rintro e w9 ⟨A24, n25, c26, rfl, o9, b9⟩
    rw [hpx] at o9
    have f9 := f8.step b9
    have B79 : Below w7.heap.size w7 w9 := b8.trans (b9.mono b8.size)
    have B69 : Below w6.heap.size w6 w9 := b7.trans (B79.mono b7.size)
    refine ⟨A24, n25, c26, _, rfl, ok_ret b9 f8, ?_⟩
    refine (ref_same_c (o8.below b9).sl (o4a.below B69).sl).mono ?_
    rintro e w10 ⟨rfl, b10⟩
    have f10 := f9.step b10
    refine ⟨_, rfl, ok_ret b10 f9, fun _ => ⟨fun _ => ⟨_, str_of (o9.below b10).sl, _, str_of ((o6.below B69).below b10).sl, fun _ => ⟨_, eql_bool .., ret_leaf f10 ?_⟩, fun hne => absurd (by rw [ex]) hne⟩, fun hne => absurd (by rw [hpx]) hne⟩, fun hb => by cases hb⟩
    have hxa : x = fewV l ↔ y = 0 := by
      rw [← turn_same hk, ex]
      constructor
      · rintro rfl; exact hE
      · intro hh; exact editB_inj mx ma (by rw [hh, hE])
    have hy0 : ((y.toNat : Int) == 0) = decide (y = 0) := by
      rw [Bool.eq_iff_iff, beq_iff_eq, decide_eq_true_eq]
      constructor
      · intro hh; exact UInt8.toNat_inj.1 (by show y.toNat = 0; omega)
      · rintro rfl; rfl
    rw [hy0]
    simp [hxa]
theorem opcodeTurned_walk (w : World) (v1 : Value) (l : List OpV) (h1 : Rep.K w (fun b => b < w.heap.size) l v1.cells.toList) (z1 : ∃ cs : Array Value, v1 = .agg cs) (a : Int) (ha : -9223372036854775808 ≤ a ∧ a ≤ 9223372036854775807) (y : Int) (hy : 0 ≤ y ∧ y ≤ 255) :
    Calls Tryd.prog 8 #[v1, .int .i64 a, .int .u8 y] w fun e w' => e = .returned (.bool true) ∧ Below w.heap.size w w' := by
  obtain ⟨A1, n1, c1, rfl, s1⟩ := edit_of h1 z1
  obtain ⟨x, rfl⟩ : ∃ x : UInt8, y = (x.toNat : Int) := ⟨UInt8.ofNat y.toNat, by rw [UInt8.toNat_ofNat']; omega⟩
  exact opcodeTurned_wk s1 a x
end Go.Proofs.YtfjenamomipmdaaDoor
