/- Frames: contracts of Put. -/
import Derived.Test.YtdjjfpcfclheiaaFrC
set_option linter.unusedSimpArgs false
set_option linter.unusedVariables false
namespace Go.Proofs.Ytdjjfpcfclheiaa.Frm
open Go Go.RowKit Go.Proofs Go.Trc Go.Sx
set_option maxRecDepth 10000

/-- The bytes of a frame, ahead of the sum; and all. -/
def headV (kd fr to ep sq ak : Int) (bd : List UInt8) : List UInt8 := [u8 kd, u8 fr, u8 to] ++ fourV ep ++ fourV sq ++ fourV ak ++ bd
def putV (kd fr to ep sq ak : Int) (bd : List UInt8) : List UInt8 := headV kd fr to ep sq ak bd ++ (fourV ((sumV (headV kd fr to ep sq ak bd)).toNat : Int)).reverse
/-- What Put comes to. -/
def PutR (w : World) (m : Int) (bs : List UInt8) (en : Ending) (w' : World) : Prop :=
  ∃ A n c, en = .returned (.tuple #[.slice A n c, .int .i64 m]) ∧ OwnF w' w.heap.size 5 (.slice A n c) (if m = 0 then bs else []) ∧ Below w.heap.size w w'
theorem head_len (kd fr to ep sq ak : Int) (bd : List UInt8) : (headV kd fr to ep sq ak bd).length = 15 + bd.length := by simp [headV, fourV]; omega
theorem put_len (kd fr to ep sq ak : Int) (bd : List UInt8) : (putV kd fr to ep sq ak bd).length = 19 + bd.length := by simp [putV, head_len, fourV]; omega
theorem u32_in {x : Int} (h : 0 ≤ x ∧ x < 4294967296) : IntKind.u32.wrap x = x := by simp [IntKind.wrap, IntKind.bits, IntKind.signed]; omega
theorem may_facts {kd fr to ep sq ak : Int} {n : Nat} (h : mayF kd fr to ep sq ak n = 0) : (0 ≤ ep ∧ ep < 4294967296) ∧ (0 ≤ sq ∧ sq < 4294967296) ∧ (0 ≤ ak ∧ ak < 4294967296) ∧ n ≤ 16384 := by
  unfold mayF at h
  cases hh : headOk kd fr to ep sq ak with
  | false => rw [hh] at h; simp at h
  | true =>
    rw [hh, if_pos rfl] at h
    unfold headOk at hh
    simp only [Bool.and_eq_true, cnt, decide_eq_true_eq] at hh
    split at h
    · cases h
    · refine ⟨?_, ?_, ?_, ?_⟩ <;> omega
theorem start3 {w0 w : World} {g : Nat} {kd fr to : Int} {G : List Nat} (hg : w.heap[g]? = some (.cells #[.int .u8 (IntKind.u8.wrap kd), .int .u8 (IntKind.u8.wrap fr), .int .u8 (IntKind.u8.wrap to)] 5 (0, 0))) (base : Nat)
    (f : Fr (fun b => some b = none) w0 w) (hG : ∀ g ∈ G, g < w.heap.size) (hb : base ≤ w0.heap.size) (hbg : base ≤ g) : Rw none w0 base 5 w (.slice (some ⟨g, 0, none⟩) 3 3) [u8 kd, u8 fr, u8 to] G := by
  refine ⟨OwnF.bytes [u8 kd, u8 fr, u8 to] 3 rfl hbg ?_ (by decide), f, fun k hk => (by rw [tail_full] at hk; cases hk), hG, hb⟩
  rw [hg, u8_wrap, u8_wrap, u8_wrap]
  rfl

set_option maxHeartbeats 4000000 in
theorem put_c {w : World} {kd fr to ep sq ak : Int} {A : Option Addr} {n c : Nat} {bd : List UInt8} (hr : ∀ v ∈ [ep, sq, ak], -9223372036854775808 ≤ v ∧ v ≤ 9223372036854775807) (hbd : Sl w (fun _ => True) (.slice A n c) bd) :
    Calls Try.prog 43 #[.agg #[.int .i64 kd, .int .i64 fr, .int .i64 to, .int .i64 ep, .int .i64 sq, .int .i64 ak, .slice A n c]] w (PutR w (mayF kd fr to ep sq ak n) (putV kd fr to ep sq ak bd)) := by
  refine put_sx _ (fun b => some b = none) w kd fr to ep sq ak A n c ?_
  intro g9 hg9 w1 f1 b1 hlo9 t9
  refine (fmay_c w1 kd fr to ep sq ak A n c hr).mono ?_
  rintro e w2 ⟨rfl, b2⟩
  have f2 := f1.step b2
  refine ⟨_, rfl, ok_ret b2 f1, fun hne => ⟨none, 0, 0, rfl, ?_, fr_below (fr_none f2)⟩, fun hm => ?_⟩
  · rw [if_neg hne]; exact Own.nil _ _ _ _
  obtain ⟨h1, h2, h3, h4⟩ := may_facts hm
  have hn := hbd.len
  rw [u32_in h1, u32_in h2, u32_in h3]
  intro g11 hg11 g12 hg12 w3 f3 b3 hlo12 t12 hlo11 t11
  have g9lt : g9 < w2.heap.size := Nat.lt_of_lt_of_le (heap_lt t9) b2.size
  have r3 : Rw none w w.heap.size 5 w3 (.slice (some ⟨g11, 0, none⟩) 3 3) [u8 kd, u8 fr, u8 to] [g12, g11, g9] := start3 t11 _ f3 (by
    intro g hg
    simp only [List.mem_cons, List.not_mem_nil, or_false] at hg
    rcases hg with rfl | rfl | rfl
    · exact heap_lt t12
    · exact heap_lt t11
    · exact Nat.lt_of_lt_of_le g9lt b3.size) (Nat.le_refl _) hg11
  have len4 : ∀ x, (fourV x).length = 4 := fun x => rfl
  refine (four_c ep r3.own f3.size (by simp)).mono ?_
  rintro e w4 ⟨v4, rfl, o4, gr4, bl4⟩
  obtain ⟨A4, c4, rfl, _⟩ := o4.slice
  obtain ⟨m4, r4⟩ := r3.grew o4 gr4 bl4
  refine ⟨A4, _, c4, rfl, m4, ?_⟩
  refine (four_c sq r4.own r4.fr.size (by simp [len4])).mono ?_
  rintro e w5 ⟨v5, rfl, o5, gr5, bl5⟩
  obtain ⟨A5, c5, rfl, _⟩ := o5.slice
  obtain ⟨m5, r5⟩ := r4.grew o5 gr5 bl5
  refine ⟨A5, _, c5, rfl, m5, ?_⟩
  refine (four_c ak r5.own r5.fr.size (by simp [len4])).mono ?_
  rintro e w6 ⟨v6, rfl, o6, gr6, bl6⟩
  obtain ⟨A6, c6, rfl, _⟩ := o6.slice
  obtain ⟨m6, r6⟩ := r5.grew o6 gr6 bl6
  refine ⟨A6, _, c6, rfl, m6, ?_⟩
  have hbd6 : Sl w6 (fun _ => True) (.slice A n c) bd := hbd.below (fr_below (fr_none r6.fr))
  obtain ⟨w7, A7, n7, c7, hr7, m7, r7⟩ := r6.append 45 45 (.int .u8 0) 1 Try.underlying45 (by kernel_rfl) rfl hbd6.arg (by simp [len4]; omega) (by simp [len4]; omega)
  refine ⟨w7, A7, n7, c7, hr7, m7, ?_⟩
  refine (sum_c (r7.own.to (ok := fun _ => True) fun _ _ => trivial)).mono ?_
  rintro e w8 ⟨rfl, b8⟩
  refine ⟨_, rfl, ok_below r7.fr b8, ?_⟩
  have r8 := r7.below b8
  have n8 : OwnF w8 w8.heap.size 5 (.slice none 0 0) ([] : List UInt8) := Own.nil _ _ _ _
  refine (four_c _ n8 (Nat.le_refl _) (by simp)).mono ?_
  rintro e w9 ⟨v9, rfl, o9, gr9, bl9⟩
  rw [tail_full] at gr9
  have b9 := below_of_grown gr9
  obtain ⟨A9, c9, rfl, hA9⟩ := o9.slice
  have r9 := r8.below b9
  refine ⟨A9, _, c9, rfl, ok_below r8.fr b9, ?_⟩
  obtain ⟨g, o, rfl, -⟩ := (o9.to (ok := fun _ => True) fun _ _ => trivial).at_ (by simp [len4])
  obtain ⟨g', he, hg', hgl⟩ := hA9 _ rfl
  injection he with he1 he2
  subst he1; subst he2
  refine (reverse_c o9 (by simp [len4])).mono ?_
  rintro e w10 ⟨rfl, o10, gr10⟩
  obtain ⟨m10, r10⟩ := r9.other gr10 (Nat.le_trans r8.fr.size hg') (fun h => by have := (r8.own.lt g h).2; omega) (fun h => by have := r8.names g h; omega)
  refine ⟨rfl, m10, ?_⟩
  obtain ⟨w11, A11, n11, c11, hr11, m11, r11⟩ := r10.append 45 45 (.int .u8 0) 1 Try.underlying45 (by kernel_rfl) rfl (o10.to (ok := fun _ => True) fun _ _ => trivial).arg (by simp [len4]; omega) (by simp [len4]; omega)
  refine ⟨w11, A11, n11, c11, ?_, m11, A11, n11, c11, by rw [hm], ?_, fr_below (fr_none m11.1)⟩
  · exact hr11
  · rw [if_pos hm]
    exact r11.own

set_option maxHeartbeats 4000000 in
theorem refPut_c {w : World} {kd fr to ep sq ak : Int} {A : Option Addr} {n c : Nat} {bd : List UInt8} (hbd : Sl w (fun _ => True) (.slice A n c) bd) :
    Calls Try.prog 72 #[.agg #[.int .i64 kd, .int .i64 fr, .int .i64 to, .int .i64 ep, .int .i64 sq, .int .i64 ak, .slice A n c]] w (PutR w (mayF kd fr to ep sq ak n) (putV kd fr to ep sq ak bd)) := by
  refine refPut_sx _ (fun b => some b = none) w kd fr to ep sq ak A n c ?_
  intro g9 hg9 w1 f1 b1 hlo9 t9
  refine (refMay_c w1 kd fr to ep sq ak A n c).mono ?_
  rintro e w2 ⟨rfl, b2⟩
  have f2 := f1.step b2
  refine ⟨_, rfl, ok_ret b2 f1, fun hne => ⟨none, 0, 0, rfl, ?_, fr_below (fr_none f2)⟩, fun hm => ?_⟩
  · rw [if_neg hne]; exact Own.nil _ _ _ _
  obtain ⟨h1, h2, h3, h4⟩ := may_facts hm
  have hn := hbd.len
  intro g11 hg11 w3 f3 b3 hlo11 t11 w4 f4 b4 t11'
  have g9lt : g9 < w2.heap.size := Nat.lt_of_lt_of_le (heap_lt t9) b2.size
  have r4 : Rw none w3 w.heap.size 5 w4 (.slice (some ⟨g11, 0, none⟩) 3 3) [u8 kd, u8 fr, u8 to] [g11, g9] := start3 t11' _ ((Fr.refl _ _).step b4) (by
    intro g hg
    simp only [List.mem_cons, List.not_mem_nil, or_false] at hg
    rcases hg with rfl | rfl
    · exact heap_lt t11'
    · exact Nat.lt_of_lt_of_le g9lt (Nat.le_trans b3.size b4.size)) f3.size hg11
  have len4 : ∀ x, (fourV x).length = 4 := fun x => rfl
  have up : ∀ {w' : World}, Fr (fun b => some b = none) w3 w' → Fr (fun b => some b = none) w w' := fun g => f3.trans g (fun _ _ h => h) (fun _ _ h => h)
  refine (refFour_c ep h1 r4.own (Nat.le_trans f3.size b4.size) (by simp)).mono ?_
  rintro e w5 ⟨v5, rfl, o5, gr5, bl5⟩
  obtain ⟨A5, c5, rfl, _⟩ := o5.slice
  obtain ⟨m5, r5⟩ := r4.grew o5 gr5 bl5
  refine ⟨A5, _, c5, rfl, ⟨up m5.1, m5.2⟩, keep_of r4.fr r5.fr, ?_⟩
  refine (refFour_c sq h2 r5.own (Nat.le_trans f3.size r5.fr.size) (by simp [len4])).mono ?_
  rintro e w6 ⟨v6, rfl, o6, gr6, bl6⟩
  obtain ⟨A6, c6, rfl, _⟩ := o6.slice
  obtain ⟨m6, r6⟩ := r5.grew o6 gr6 bl6
  refine ⟨A6, _, c6, rfl, ⟨up m6.1, m6.2⟩, keep_of r5.fr r6.fr, ?_⟩
  refine (refFour_c ak h3 r6.own (Nat.le_trans f3.size r6.fr.size) (by simp [len4])).mono ?_
  rintro e w7 ⟨v7, rfl, o7, gr7, bl7⟩
  obtain ⟨A7, c7, rfl, _⟩ := o7.slice
  obtain ⟨m7, r7⟩ := r6.grew o7 gr7 bl7
  refine ⟨A7, _, c7, rfl, ⟨up m7.1, m7.2⟩, ?_⟩
  have hbd7 : Sl w7 (fun _ => True) (.slice A n c) bd := hbd.below (fr_below (fr_none (up r7.fr)))
  obtain ⟨w8, A8, n8, c8, hr8, m8, r8⟩ := r7.append 45 45 (.int .u8 0) 1 Try.underlying45 (by kernel_rfl) rfl hbd7.arg (by simp [len4]; omega) (by simp [len4]; omega)
  refine ⟨w8, A8, n8, c8, hr8, ⟨up m8.1, m8.2⟩, ?_⟩
  refine (refSum_c (r8.own.to (ok := fun _ => True) fun _ _ => trivial)).mono ?_
  rintro e w9 ⟨rfl, b9⟩
  refine ⟨_, rfl, ok_below (up r8.fr) b9, ?_⟩
  have r9 := r8.below b9
  intro g26 hg26 w10 f10 b10 hlo26 t26
  have r10 := r9.on b10 [g26] (by simp only [List.mem_singleton]; rintro _ rfl; exact ⟨hlo26, heap_lt t26⟩)
  have t26' : w10.heap[g26]? = some (.cells (((fourV ((sumV (headV kd fr to ep sq ak bd)).toNat : Int)).reverse).map fun b => Value.int .u8 (b.toNat : Int)).toArray 5 (0, 0)) := by
    rw [t26]
    simp only [u8_wrap]
    have : ∀ x : Int, x.fdiv (2 ^ 0) = x := fun x => by show x.fdiv 1 = x; simp
    simp [fourV, headV, this]
  obtain ⟨w11, A11, n11, c11, hr11, m11, r11⟩ := r10.append 45 45 (.int .u8 0) 1 Try.underlying45 (by kernel_rfl) rfl (arg_bytes _ 4 (by simp [len4]) (by decide) t26') (by simp [len4]; omega) (by simp [len4]; omega)
  refine ⟨w11, A11, n11, c11, hr11, ⟨up m11.1, m11.2⟩, A11, n11, c11, by rw [hm], ?_, fr_below (fr_none (up m11.1))⟩
  rw [if_pos hm]
  exact r11.own
end Go.Proofs.Ytdjjfpcfclheiaa.Frm
