/- OpcodeBack: the walk. -/
import Derived.Test.YtfjenamomipmdaaDoorOcD
set_option linter.unusedSimpArgs false
set_option linter.unusedVariables false
namespace Go.Proofs.YtfjenamomipmdaaDoor
open Go Go.RowKit Go.Proofs Go.Trc Go.Sx
theorem eql_bool (W : World) (x y : Bool) : (binOp .eql 4 (.bool x) (.bool y)).run Tryd.prog W = .ok (.bool (x == y)) W := by
  go_simp
theorem editB_inj {a b : List OpV} (ha : mayEditV a = 0) (hb : mayEditV b = 0) (h : editB a = editB b) : a = b := by
  have h1 := take_put ha []
  have h2 := take_put hb []
  rw [h, h2] at h1
  simp only [Prod.mk.injEq] at h1
  exact h1.1.symm
theorem whole_put {a : List OpV} (ha : mayEditV a = 0) : wholeV (editB a) = (a, 0) := by
  have h1 := take_put ha []
  rw [List.append_nil] at h1
  unfold wholeV wholeK; rw [h1, if_neg (by simp)]
theorem whole_more {a : List OpV} (ha : mayEditV a = 0) {r : List UInt8} (hr : r ≠ []) : wholeV (editB a ++ r) = ([], 2) := by
  unfold wholeV wholeK; rw [take_put ha r, if_pos (.inr (List.length_pos_iff.2 hr))]
theorem whole_take {bs : List UInt8} {l : List OpV} (h : wholeV bs = (l, 0)) : bs = editB l ∧ mayEditV l = 0 := by
  unfold wholeV wholeK at h
  split at h
  · simp at h
  · rename_i hn
    rcases hX : takeR bs with ⟨l', r, k⟩
    rw [hX] at h hn
    simp only [Prod.mk.injEq, and_true] at h
    subst h
    have hk : k = 0 := by rcases Decidable.em (k = 0) with h | h; exact h; exact absurd (.inl h) hn
    have hr : r = [] := by cases r with | nil => rfl | cons x q => exact absurd (.inr (by simp)) hn
    subst hk; subst hr
    have := take_take hX
    rw [List.append_nil] at this
    exact this
theorem whole_else (bs : List UInt8) : (∃ l, wholeV bs = (l, 0)) ∨ wholeV bs = ([], 2) := by
  unfold wholeV wholeK
  split
  · exact .inr rfl
  · exact .inl ⟨_, rfl⟩
theorem whole_cut {a : List OpV} (ha : mayEditV a = 0) : wholeV ((editB a).take ((editB a).length - 1)) = ([], 2) := by
  rcases whole_else ((editB a).take ((editB a).length - 1)) with ⟨l, h⟩ | h
  · obtain ⟨e, hl⟩ := whole_take h
    have hne : editB a ≠ [] := by simp [editB]
    have e2 : editB l ++ [(editB a).getLast hne] = editB a := by rw [← e, ← List.dropLast_eq_take, List.dropLast_concat_getLast]
    have h1 := take_put ha []
    rw [List.append_nil, ← e2, take_put hl] at h1
    simp at h1
  · exact h
theorem put_ok {l : List OpV} (h : (putV [] l).2 = 0) : mayEditV l = 0 ∧ putV [] l = (editB l, 0) := by
  unfold putV at h ⊢
  split at h
  · rename_i hm; rw [if_pos hm]; exact ⟨hm, rfl⟩
  · rename_i hm; exact absurd h hm
theorem put_no {l : List OpV} (h : ¬ (putV [] l).2 = 0) : (putV [] l).1 = [] := by
  unfold putV at h ⊢
  split at h
  · exact absurd rfl h
  · rename_i hm; rw [if_neg hm]
theorem editB_len {l : List OpV} (h : mayEditV l = 0) : (editB l).length ≤ 241 ∧ 1 ≤ (editB l).length := by
  obtain ⟨hl, hg⟩ := may_good h
  have := flat_op_len hg
  simp [editB] at *
  omega
theorem past_old {w w' : World} {base g : Nat} {A : Option Addr} {n c : Nat} {xs : List OpV} (o : OwnF w base 39 (.slice A n c) xs) (q : Fr (fun b => b ∈ [g]) w w') (hg : g < base) : OwnF w' base 39 (.slice A n c) xs :=
  past_own o q fun hh => by have := Own.base o g hh; omega
theorem eq_bytes {a b : List OpV} (ha : mayEditV a = 0) (hb : mayEditV b = 0) : ((⟨(editB a).toArray⟩ : ByteArray).toList == (⟨(editB b).toArray⟩ : ByteArray).toList) = decide (a = b) := by
  rw [Bool.eq_iff_iff, beq_iff_eq, bytes_toList_inj, decide_eq_true_eq]
  constructor
  · intro h
    injection h with h
    exact editB_inj ha hb (by simpa using congrArg Array.toList h)
  · rintro rfl; rfl
theorem fewV_past {w w' : World} {base g : Nat} {A : Option Addr} {n c : Nat} {xs : List OpV} {C : Array Value} (o : OwnF w base 39 (.slice A n c) xs) (q : Fr (fun b => b ∈ [g]) w w') (hg : w.heap[g]? = some (.cells C 25 (0, 0))) : OwnF w' base 39 (.slice A n c) xs :=
  past_own o q (own_ne' o hg (by decide))
/-- A row of bytes is appended to, in a run that began at w0. -/
theorem app_b {w0 w : World} {A A2 : Option Addr} {n c n2 c2 : Nat} {xs ys : List UInt8} {G : List Nat} {ok : Nat → Prop} (h : Rw none w0 w0.heap.size 5 w (.slice A n c) xs G) (h2 : Sl w ok (.slice A2 n2 c2) ys) (hl : xs.length + ys.length ≤ 100000) :
    ∃ w' A' n' c', (Builtin.append_ #[22, 22] 22 #[.slice A n c, .slice A2 n2 c2]).run Tryd.prog w = .ok (.slice A' n' c') w' ∧ Mild G w w' ∧ Rw none w0 w0.heap.size 5 w' (.slice A' n' c') (xs ++ ys) G := by
  obtain ⟨w', A', n', c', hr, m, r⟩ := h.append 22 22 (.int .u8 0) 1 Tryd.underlying22 infoB1 rfl h2.arg (by omega) (by omega)
  exact ⟨w', A', n', c', hr, m.2, r⟩
set_option maxHeartbeats 4000000 in
theorem opcodeBack_wk {w : World} {ok ok' okm : Nat → Prop} {A A3 A6 : Option Addr} {n c n4 c5 n7 c8 : Nat} {l l2 : List OpV} {ms0 : List UInt8} (h : Sl w ok (.slice A n c) l) (h2 : Sl w ok' (.slice A3 n4 c5) l2) (hm : Sl w okm (.slice A6 n7 c8) ms0) :
    Calls Tryd.prog 7 #[.agg #[.slice A n c], .agg #[.slice A3 n4 c5], .slice A6 n7 c8] w (Ret (.bool true) w) := by
  refine opcodeBack_sx _ (fun _ => False) w A n c A3 n4 c5 A6 n7 c8 ?_
  intro g9 hg9 g10 hg10 w1 f1 b1 lo10 t10 lo9 t9
  refine (shown10_c w1).mono ?_
  rintro e w2 ⟨rfl, b2⟩
  have f2 := f1.step b2
  refine ⟨_, rfl, ok_ret b2 f1, ?_⟩
  refine (few10_c (h.below (fr_below f2))).mono ?_
  rintro e w3 ⟨A12, n13, c14, rfl, o3, b3⟩
  have f3 := f2.step b3
  have B13 : Below w1.heap.size w1 w3 := b2.trans (b3.mono b2.size)
  refine ⟨A12, n13, c14, rfl, ok_ret b3 f2, fun w4 f4 q4 => ?_⟩
  have o4 := past_old o3 q4 (by have := heap_lt t9; have := b2.size; omega)
  refine (few10_c (h2.below (fr_below f4))).mono ?_
  rintro e w5 ⟨A15, n16, c17, rfl, o5, b5⟩
  have f5 := f4.step b5
  have o5a := o4.below b5
  have z2 : w1.heap.size ≤ w2.heap.size := b2.size
  have z4 : w1.heap.size ≤ w4.heap.size := Nat.le_trans B13.size q4.size
  have l9 := heap_lt t9
  have l10 := heap_lt t10
  have hB0 : Below w.heap.size w w5 := fr_below f5
  refine ⟨A15, n16, c17, rfl, ok_ret b5 f4, fun hgt w6 f6 q6 => ?_, fun hle w6 f6 q6 => ?_⟩
  · obtain ⟨hr, hs⟩ := hi_b hm (k := 50) (by omega)
    refine ⟨A6, 50, c8, hr w6, ?_⟩
    have o6a := past_old o5a q6 (by omega)
    have o6b := past_old o5 q6 (by omega)
    have lt9w : g9 < w6.heap.size := by have := b5.size; have := q6.size; omega
    have lt10w : g10 < w6.heap.size := by have := b5.size; have := q6.size; omega
    generalize ms0.take 50 = ms at hs
    -- both are put; what follows
    refine (opcodePut_c (Sl.nil0 w6 (fun _ => True)) (by omega) o6a.sl).mono ?_
    rintro e w7 ⟨A21, n22, c23, rfl, o7, b7⟩
    have f7 := f6.step b7
    refine ⟨A21, n22, c23, _, rfl, ok_ret b7 f6, ?_⟩
    have o7b := o6b.below b7
    refine (opcodePut_c (Sl.nil0 w7 (fun _ => True)) (by omega) o7b.sl).mono ?_
    rintro e w8 ⟨A25, n26, c27, rfl, o8, b8⟩
    have f8 := f7.step b8
    have h22 := o7.sl.len
    refine ⟨A25, n26, c27, _, rfl, ok_ret b8 f7, fun hne => ⟨fun _ => ret_leaf f8 ?_, fun hb => by cases hb⟩, fun he => ⟨fun hne => ⟨fun _ => ret_leaf f8 rfl, fun hb => by cases hb⟩, fun he2 => ?_⟩⟩
    · rw [h22, put_no hne]; rfl
    obtain ⟨ma, pa⟩ := put_ok he
    obtain ⟨mb, pb⟩ := put_ok he2
    rw [pa] at o7 h22; rw [pb] at o8
    have h22 : n22 = (editB (fewV l)).length := h22
    have la := editB_len ma
    have o8a := o7.below b8
    have p8a := (o6a.below b7).below b8
    have p8b := o7b.below b8
    intro g29 hg29 w9 f9 b9 lo29 t29
    have B68 : Below w6.heap.size w6 w8 := b7.trans (b8.mono b7.size)
    have lt9 : g9 < w9.heap.size := Nat.lt_of_lt_of_le lt9w (Nat.le_trans B68.size b9.size)
    have lt10 : g10 < w9.heap.size := Nat.lt_of_lt_of_le lt10w (Nat.le_trans B68.size b9.size)
    have r9 : Rw none w8 w8.heap.size 5 w9 (.slice (some ⟨g29, 0, none⟩) 0 0) ([] : List UInt8) [g29, g10, g9] := Rw.first ((Fr.refl _ _).step b9) lo29 t29 (by
      intro k hk
      simp only [List.mem_cons, List.not_mem_nil, or_false] at hk
      rcases hk with rfl | rfl | rfl
      · exact heap_lt t29
      · exact lt10
      · exact lt9)
    obtain ⟨w10, A30, n31, c32, hr10, m10, r10⟩ := app_b r9 (o8a.below b9).sl (by simp only [List.length_nil]; omega)
    rw [List.nil_append] at r10
    have d10 := r10.done'.2
    refine ⟨w10, A30, n31, c32, hr10, ⟨f8.step d10, m10⟩, ?_⟩
    have lm := hs.len
    obtain ⟨w11, A33, n34, c35, hr11, m11, r11⟩ := app_b r10 (hs.below (fr_below (f8.step d10))) (by omega)
    have d11 := r11.done'.2
    have f11 := f8.step d11
    refine ⟨w11, A33, n34, c35, hr11, ⟨f11, m11⟩, ?_⟩
    have h34 := r11.own.sl.len
    rw [List.length_append] at h34
    refine (opcodeTake_c r11.own.sl (by omega)).mono ?_
    rintro e w12 ⟨A36, n37, c38, A39, n40, c41, rfl, o12, s12, b12⟩
    rw [take_put ma ms] at o12 s12
    have f12 := f11.step b12
    have B812 : Below w8.heap.size w8 w12 := d11.trans (b12.mono d11.size)
    refine ⟨A36, n37, c38, A39, n40, c41, _, rfl, ok_ret b12 f11, fun g43 hg43 w13 f13 b13 lo43 t43 => ?_⟩
    have B813 := B812.trans (b13.mono B812.size)
    refine (ref_same_c (o12.below b13).sl (p8a.below B813).sl).mono ?_
    rintro e w14 ⟨rfl, b14⟩
    have f14 := f13.step b14
    have B814 := B813.trans (b14.mono B813.size)
    refine ⟨_, rfl, ok_ret b14 f13, ?_⟩
    refine (ref_same_c (p8a.below B814).sl (p8b.below B814).sl).mono ?_
    rintro e w15 ⟨rfl, b15⟩
    have f15 := f14.step b15
    have B815 := B814.trans (b15.mono B814.size)
    refine ⟨_, rfl, ok_ret b15 f14, fun h0 => by omega, fun h0 => ?_⟩
    have o15' := o8a.below B815
    obtain ⟨hrc, sc⟩ := hi_b o15'.sl (k := n22 - 1) (by omega)
    have hk : IntKind.i64.wrap ((n22 : Int) - 1) = ((n22 - 1 : Nat) : Int) := by rw [wrap_in (by omega)]; omega
    rw [hk]
    refine ⟨A21, n22 - 1, c23, hrc w15, ?_⟩
    refine (opcodeWhole_c sc (by omega)).mono ?_
    rintro e w16 ⟨A49, n50, c51, rfl, o16, b16⟩
    rw [h22, whole_cut ma] at o16
    have f16 := f15.step b16
    have B816 := B815.trans (b16.mono B815.size)
    have hw2 : (wholeV ((editB (fewV l)).take (n22 - 1))).2 = 2 := by rw [h22, whole_cut ma]
    refine ⟨A49, n50, c51, _, rfl, ok_ret b16 f15, fun g53 hg53 g54 hg54 w17 f17 b17 lo54 t54 lo53 t53 => ?_⟩
    have z9 : w9.heap.size ≤ w17.heap.size ∧ w13.heap.size ≤ w17.heap.size := by
      have := m10.1; have := m11.1; have := b12.size; have := b13.size; have := b14.size; have := b15.size; have := b16.size; have := b17.size
      omega
    have l29 := heap_lt t29
    have l43 := heap_lt t43
    have r17 : Rw none w16 w16.heap.size 5 w17 (.slice (some ⟨g54, 0, none⟩) 0 0) ([] : List UInt8) [g54, g53, g43, g29, g10, g9] := Rw.first ((Fr.refl _ _).step b17) lo54 t54 (by
      intro k hk
      simp only [List.mem_cons, List.not_mem_nil, or_false] at hk
      rcases hk with rfl | rfl | rfl | rfl | rfl | rfl
      · exact heap_lt t54
      · exact heap_lt t53
      · omega
      · omega
      · omega
      · omega)
    have B817 := B816.trans (b17.mono B816.size)
    obtain ⟨w18, A55, n56, c57, hr18, m18, r18⟩ := app_b r17 (o8a.below B817).sl (by simp only [List.length_nil]; omega)
    rw [List.nil_append] at r18
    have d18 := r18.done'.2
    refine ⟨w18, A55, n56, c57, hr18, ⟨f16.step d18, m18⟩, fun g58 hg58 w19 f19 b19 lo58 t58 => ?_⟩
    have r19 := r18.on b19 [g58] (by simp only [List.mem_singleton]; rintro _ rfl; exact ⟨lo58, heap_lt t58⟩)
    obtain ⟨w20, A59, n60, c61, hr20, m20, r20⟩ := r19.append 22 22 (.int .u8 0) 1 Tryd.underlying22 infoB1 rfl (arg_b [0] 1 rfl _ rfl t58 (by omega)) (by simp only [List.length_cons, List.length_nil]; omega) (by simp only [List.length_cons, List.length_nil]; omega)
    have d20 := r20.done'.2
    have f20 := f16.step d20
    have h60 := r20.own.sl.len
    rw [List.length_append] at h60
    refine ⟨w20, A59, n60, c61, hr20, ⟨f20, m20.2⟩, ?_⟩
    refine (opcodeWhole_c r20.own.sl (by simp only [List.length_cons, List.length_nil] at h60; omega)).mono ?_
    rintro e w21 ⟨A62, n63, c64, rfl, o21, b21⟩
    have hw3 : (wholeV (editB (fewV l) ++ [0])).2 = 2 := by rw [whole_more ma (by simp)]
    have f21 := f20.step b21
    have B821 := B816.trans ((d20.trans (b21.mono d20.size)).mono B816.size)
    have B1216 : Below w12.heap.size w12 w16 := ((b13.trans (b14.mono b13.size)).trans (b15.mono (Nat.le_trans b13.size b14.size))).trans (b16.mono (Nat.le_trans (Nat.le_trans b13.size b14.size) b15.size))
    have B1221 := B1216.trans ((d20.trans (b21.mono d20.size)).mono B1216.size)
    refine ⟨A62, n63, c64, _, rfl, ok_ret b21 f20, fun g66 hg66 => ⟨fun _ => ⟨fun _ => ⟨fun _ w22 f22 b22 lo t => ?_, fun hb => by simp at hb⟩, fun hne => by rw [take_put ma ms] at hne; exact absurd rfl hne⟩, fun hb => by cases hb⟩⟩
    have B822 := B821.trans (b22.mono B821.size)
    have B1222 := B1221.trans (b22.mono B1221.size)
    refine ⟨_, str_of (s12.below B1222), _, str_of (hs.below (fr_below f22)), fun _ => ⟨_, str_of (o8a.below B822).sl, _, str_of (o8.below B822).sl, _, eql_bool .., fun _ => ⟨fun _ => ret_leaf f22 (by rw [hw3]; rfl), fun hne => absurd hw2 hne⟩, fun hbf => ?_⟩, fun hne => absurd rfl hne⟩
    rw [eq_bytes ma mb] at hbf
    simp at hbf
  · have hs := hm
    have o6a := past_old o5a q6 (by omega)
    have o6b := past_old o5 q6 (by omega)
    have lt9w : g9 < w6.heap.size := by have := b5.size; have := q6.size; omega
    have lt10w : g10 < w6.heap.size := by have := b5.size; have := q6.size; omega
    generalize ms0 = ms at hs
    -- both are put; what follows
    refine (opcodePut_c (Sl.nil0 w6 (fun _ => True)) (by omega) o6a.sl).mono ?_
    rintro e w7 ⟨A21, n22, c23, rfl, o7, b7⟩
    have f7 := f6.step b7
    refine ⟨A21, n22, c23, _, rfl, ok_ret b7 f6, ?_⟩
    have o7b := o6b.below b7
    refine (opcodePut_c (Sl.nil0 w7 (fun _ => True)) (by omega) o7b.sl).mono ?_
    rintro e w8 ⟨A25, n26, c27, rfl, o8, b8⟩
    have f8 := f7.step b8
    have h22 := o7.sl.len
    refine ⟨A25, n26, c27, _, rfl, ok_ret b8 f7, fun hne => ⟨fun _ => ret_leaf f8 ?_, fun hb => by cases hb⟩, fun he => ⟨fun hne => ⟨fun _ => ret_leaf f8 rfl, fun hb => by cases hb⟩, fun he2 => ?_⟩⟩
    · rw [h22, put_no hne]; rfl
    obtain ⟨ma, pa⟩ := put_ok he
    obtain ⟨mb, pb⟩ := put_ok he2
    rw [pa] at o7 h22; rw [pb] at o8
    have h22 : n22 = (editB (fewV l)).length := h22
    have la := editB_len ma
    have o8a := o7.below b8
    have p8a := (o6a.below b7).below b8
    have p8b := o7b.below b8
    intro g29 hg29 w9 f9 b9 lo29 t29
    have B68 : Below w6.heap.size w6 w8 := b7.trans (b8.mono b7.size)
    have lt9 : g9 < w9.heap.size := Nat.lt_of_lt_of_le lt9w (Nat.le_trans B68.size b9.size)
    have lt10 : g10 < w9.heap.size := Nat.lt_of_lt_of_le lt10w (Nat.le_trans B68.size b9.size)
    have r9 : Rw none w8 w8.heap.size 5 w9 (.slice (some ⟨g29, 0, none⟩) 0 0) ([] : List UInt8) [g29, g10, g9] := Rw.first ((Fr.refl _ _).step b9) lo29 t29 (by
      intro k hk
      simp only [List.mem_cons, List.not_mem_nil, or_false] at hk
      rcases hk with rfl | rfl | rfl
      · exact heap_lt t29
      · exact lt10
      · exact lt9)
    obtain ⟨w10, A30, n31, c32, hr10, m10, r10⟩ := app_b r9 (o8a.below b9).sl (by simp only [List.length_nil]; omega)
    rw [List.nil_append] at r10
    have d10 := r10.done'.2
    refine ⟨w10, A30, n31, c32, hr10, ⟨f8.step d10, m10⟩, ?_⟩
    have lm := hs.len
    obtain ⟨w11, A33, n34, c35, hr11, m11, r11⟩ := app_b r10 (hs.below (fr_below (f8.step d10))) (by omega)
    have d11 := r11.done'.2
    have f11 := f8.step d11
    refine ⟨w11, A33, n34, c35, hr11, ⟨f11, m11⟩, ?_⟩
    have h34 := r11.own.sl.len
    rw [List.length_append] at h34
    refine (opcodeTake_c r11.own.sl (by omega)).mono ?_
    rintro e w12 ⟨A36, n37, c38, A39, n40, c41, rfl, o12, s12, b12⟩
    rw [take_put ma ms] at o12 s12
    have f12 := f11.step b12
    have B812 : Below w8.heap.size w8 w12 := d11.trans (b12.mono d11.size)
    refine ⟨A36, n37, c38, A39, n40, c41, _, rfl, ok_ret b12 f11, fun g43 hg43 w13 f13 b13 lo43 t43 => ?_⟩
    have B813 := B812.trans (b13.mono B812.size)
    refine (ref_same_c (o12.below b13).sl (p8a.below B813).sl).mono ?_
    rintro e w14 ⟨rfl, b14⟩
    have f14 := f13.step b14
    have B814 := B813.trans (b14.mono B813.size)
    refine ⟨_, rfl, ok_ret b14 f13, ?_⟩
    refine (ref_same_c (p8a.below B814).sl (p8b.below B814).sl).mono ?_
    rintro e w15 ⟨rfl, b15⟩
    have f15 := f14.step b15
    have B815 := B814.trans (b15.mono B814.size)
    refine ⟨_, rfl, ok_ret b15 f14, fun h0 => by omega, fun h0 => ?_⟩
    have o15' := o8a.below B815
    obtain ⟨hrc, sc⟩ := hi_b o15'.sl (k := n22 - 1) (by omega)
    have hk : IntKind.i64.wrap ((n22 : Int) - 1) = ((n22 - 1 : Nat) : Int) := by rw [wrap_in (by omega)]; omega
    rw [hk]
    refine ⟨A21, n22 - 1, c23, hrc w15, ?_⟩
    refine (opcodeWhole_c sc (by omega)).mono ?_
    rintro e w16 ⟨A49, n50, c51, rfl, o16, b16⟩
    rw [h22, whole_cut ma] at o16
    have f16 := f15.step b16
    have B816 := B815.trans (b16.mono B815.size)
    have hw2 : (wholeV ((editB (fewV l)).take (n22 - 1))).2 = 2 := by rw [h22, whole_cut ma]
    refine ⟨A49, n50, c51, _, rfl, ok_ret b16 f15, fun g53 hg53 g54 hg54 w17 f17 b17 lo54 t54 lo53 t53 => ?_⟩
    have z9 : w9.heap.size ≤ w17.heap.size ∧ w13.heap.size ≤ w17.heap.size := by
      have := m10.1; have := m11.1; have := b12.size; have := b13.size; have := b14.size; have := b15.size; have := b16.size; have := b17.size
      omega
    have l29 := heap_lt t29
    have l43 := heap_lt t43
    have r17 : Rw none w16 w16.heap.size 5 w17 (.slice (some ⟨g54, 0, none⟩) 0 0) ([] : List UInt8) [g54, g53, g43, g29, g10, g9] := Rw.first ((Fr.refl _ _).step b17) lo54 t54 (by
      intro k hk
      simp only [List.mem_cons, List.not_mem_nil, or_false] at hk
      rcases hk with rfl | rfl | rfl | rfl | rfl | rfl
      · exact heap_lt t54
      · exact heap_lt t53
      · omega
      · omega
      · omega
      · omega)
    have B817 := B816.trans (b17.mono B816.size)
    obtain ⟨w18, A55, n56, c57, hr18, m18, r18⟩ := app_b r17 (o8a.below B817).sl (by simp only [List.length_nil]; omega)
    rw [List.nil_append] at r18
    have d18 := r18.done'.2
    refine ⟨w18, A55, n56, c57, hr18, ⟨f16.step d18, m18⟩, fun g58 hg58 w19 f19 b19 lo58 t58 => ?_⟩
    have r19 := r18.on b19 [g58] (by simp only [List.mem_singleton]; rintro _ rfl; exact ⟨lo58, heap_lt t58⟩)
    obtain ⟨w20, A59, n60, c61, hr20, m20, r20⟩ := r19.append 22 22 (.int .u8 0) 1 Tryd.underlying22 infoB1 rfl (arg_b [0] 1 rfl _ rfl t58 (by omega)) (by simp only [List.length_cons, List.length_nil]; omega) (by simp only [List.length_cons, List.length_nil]; omega)
    have d20 := r20.done'.2
    have f20 := f16.step d20
    have h60 := r20.own.sl.len
    rw [List.length_append] at h60
    refine ⟨w20, A59, n60, c61, hr20, ⟨f20, m20.2⟩, ?_⟩
    refine (opcodeWhole_c r20.own.sl (by simp only [List.length_cons, List.length_nil] at h60; omega)).mono ?_
    rintro e w21 ⟨A62, n63, c64, rfl, o21, b21⟩
    have hw3 : (wholeV (editB (fewV l) ++ [0])).2 = 2 := by rw [whole_more ma (by simp)]
    have f21 := f20.step b21
    have B821 := B816.trans ((d20.trans (b21.mono d20.size)).mono B816.size)
    have B1216 : Below w12.heap.size w12 w16 := ((b13.trans (b14.mono b13.size)).trans (b15.mono (Nat.le_trans b13.size b14.size))).trans (b16.mono (Nat.le_trans (Nat.le_trans b13.size b14.size) b15.size))
    have B1221 := B1216.trans ((d20.trans (b21.mono d20.size)).mono B1216.size)
    refine ⟨A62, n63, c64, _, rfl, ok_ret b21 f20, fun g66 hg66 => ⟨fun _ => ⟨fun _ => ⟨fun _ w22 f22 b22 lo t => ?_, fun hb => by simp at hb⟩, fun hne => by rw [take_put ma ms] at hne; exact absurd rfl hne⟩, fun hb => by cases hb⟩⟩
    have B822 := B821.trans (b22.mono B821.size)
    have B1222 := B1221.trans (b22.mono B1221.size)
    refine ⟨_, str_of (s12.below B1222), _, str_of (hs.below (fr_below f22)), fun _ => ⟨_, str_of (o8a.below B822).sl, _, str_of (o8.below B822).sl, _, eql_bool .., fun _ => ⟨fun _ => ret_leaf f22 (by rw [hw3]; rfl), fun hne => absurd hw2 hne⟩, fun hbf => ?_⟩, fun hne => absurd rfl hne⟩
    rw [eq_bytes ma mb] at hbf
    simp at hbf
theorem opcodeBack_walk (w : World) (v1 : Value) (l : List OpV) (h1 : Rep.K w (fun b => b < w.heap.size) l v1.cells.toList) (z1 : ∃ cs : Array Value, v1 = .agg cs)
    (v2 : Value) (l2 : List OpV) (h2 : Rep.K w (fun b => b < w.heap.size) l2 v2.cells.toList) (z2 : ∃ cs : Array Value, v2 = .agg cs) (A : Option Addr) (n c : Nat) (xs : List UInt8) (h : Sl w (fun b => b < w.heap.size) (.slice A n c) xs) :
    Calls Tryd.prog 7 #[v1, v2, .slice A n c] w fun e w' => e = .returned (.bool true) ∧ Below w.heap.size w w' := by
  obtain ⟨A1, n1, c1, rfl, s1⟩ := edit_of h1 z1
  obtain ⟨A2, n2, c2, rfl, s2⟩ := edit_of h2 z2
  exact opcodeBack_wk s1 s2 h
end Go.Proofs.YtfjenamomipmdaaDoor
