/- ScriptApart. -/
import Derived.Test.YtfjenamomipmdaaDoorScS
import Derived.Test.YtfjenamomipmdaaDoorScA
import Derived.Test.YtfjenamomipmdaaDoorScW
set_option linter.unusedSimpArgs false
set_option linter.unusedVariables false
namespace Go.Proofs.YtfjenamomipmdaaDoor
open Go Go.RowKit Go.Proofs Go.Trc Go.Sx
def hdr (x : StepV) (A : Option Addr) (n c : Nat) : HdS := (x.1, x.2.1, x.2.2.1, x.2.2.2.1, ⟨A, n, c⟩)
theorem rows_any {ok : Nat → Prop} {base : Nat} {w : World} {v : Value} {hs : List HdS} {ls : List StepV} (o : OwnF w base 54 v hs) (a : Al (fun (h : HdS) (x : StepV) => h.1 = x.1 ∧ h.2.1 = x.2.1 ∧ h.2.2.1 = x.2.2.1 ∧ h.2.2.2.1 = x.2.2.2.1 ∧ Sl w ok h.2.2.2.2.v x.2.2.2.2) hs ls) : Sl w (fun _ => True) v ls := by
  obtain ⟨A, c, rfl, h1, h2, h3, h4⟩ := o.sl
  refine ⟨A, c, by rw [a.1], by rw [← a.1]; exact h1, h2, h3, fun hp => ?_⟩
  obtain ⟨b, o', hA, _, hc⟩ := h4 (by rw [a.1]; exact hp)
  refine ⟨b, o', hA, trivial, fun j hj => ?_⟩
  have hj' : j < hs.length := by rw [a.1]; exact hj
  obtain ⟨cs, hK, hcc⟩ := hc j hj'
  obtain ⟨e1, e2, e3, e4, hs5⟩ := a.2 j hj' hj
  obtain ⟨_, _, rfl, k1, _, _, rfl, k2, _, _, rfl, k3, _, _, rfl, k4, k5⟩ := hK
  exact ⟨_, ⟨_, _, rfl, e1 ▸ k1, _, _, rfl, e2 ▸ k2, _, _, rfl, e3 ▸ k3, _, _, rfl, e4 ▸ k4, _, k5, hs5.any⟩, hcc⟩
/-- A row of two steps. -/
theorem two_steps {w : World} {g : Nat} {ok ok' : Nat → Prop} {A A' : Option Addr} {n c n' c' : Nat} (x y : StepV) (hx : rngs x) (hy : rngs y)
    (hg : w.heap[g]? = some (.cells #[.int .i64 x.1, .int .i64 x.2.1, .int .i64 x.2.2.1, .int .i64 x.2.2.2.1, .slice A n c, .int .i64 y.1, .int .i64 y.2.1, .int .i64 y.2.2.1, .int .i64 y.2.2.2.1, .slice A' n' c'] 54 (0, 0)))
    (hs : Sl w ok (.slice A n c) x.2.2.2.2) (hs' : Sl w ok' (.slice A' n' c') y.2.2.2.2) : Sl w (fun _ => True) (.slice (some ⟨g, 0, none⟩) 2 2) [x, y] := by
  have o : OwnF w 0 54 (.slice (some ⟨g, 0, none⟩) 2 2) ([hdr x A n c, hdr y A' n' c'] : List HdS) :=
    OwnF.cells _ 2 rfl (Nat.zero_le g) hg (by decide) (by
      simp only [List.mem_cons, List.not_mem_nil, or_false]
      rintro _ (rfl | rfl)
      · exact hd_wf hx _
      · exact hd_wf hy _)
  exact rows_any o (Al.append (Al.one ⟨rfl, rfl, rfl, rfl, hs.any⟩) (Al.one ⟨rfl, rfl, rfl, rfl, hs'.any⟩))
theorem step_of {w : World} {ok : Nat → Prop} {v : Value} {x : StepV} (h : Rep.K w ok x v.cells.toList) (z : ∃ cs : Array Value, v = .agg cs) :
    rngs x ∧ ∃ A n c, v = .agg #[.int .i64 x.1, .int .i64 x.2.1, .int .i64 x.2.2.1, .int .i64 x.2.2.2.1, .slice A n c] ∧ Sl w ok (.slice A n c) x.2.2.2.2 := by
  obtain ⟨cs, rfl⟩ := z
  obtain ⟨_, _, hcs, ⟨rfl, k1⟩, _, _, rfl, ⟨rfl, k2⟩, _, _, rfl, ⟨rfl, k3⟩, _, _, rfl, ⟨rfl, k4⟩, v, rfl, hs⟩ := h
  obtain ⟨A1, c1, rfl, _⟩ := id hs
  refine ⟨⟨k1, k2, k3, k4⟩, A1, _, c1, ?_, hs⟩
  have e : cs = #[.int .i64 x.1, .int .i64 x.2.1, .int .i64 x.2.2.1, .int .i64 x.2.2.2.1, .slice A1 x.2.2.2.2.length c1] := Array.ext' hcs
  rw [e]
theorem cut_rng {x : StepV} (h : rngs x) : rngs (cutS x) := h
theorem infoS2 : ∃ i, Tryd.prog.info? 54 = some i ∧ i.size = 5 := by
  obtain ⟨i, hi, _, hs, _⟩ := info_parts infoS
  exact ⟨i, hi, hs⟩
theorem bytes_eq (a b : List UInt8) : ((⟨a.toArray⟩ : ByteArray).toList == (⟨b.toArray⟩ : ByteArray).toList) = decide (a = b) := by
  rw [Bool.eq_iff_iff, beq_iff_eq, bytes_toList_inj, decide_eq_true_eq]
  constructor
  · intro h
    injection h with h
    simpa using congrArg Array.toList h
  · rintro rfl; rfl
theorem apart_fin {a b : StepV} (ha : rngs a) (hb : rngs b) (h0 : (putS a).2 = 0) (h1 : (putS b).2 = 0) (h : (((⟨(putS a).1.toArray⟩ : ByteArray).toList == (⟨(putS b).1.toArray⟩ : ByteArray).toList) == decide ([a] = [b])) = false) : False := by
  have e : decide ((putS a).1 = (putS b).1) = decide ([a] = [b]) := decide_eq_decide.2 ((putS_inj ha hb h0 h1).trans (by simp only [List.cons.injEq, and_true]))
  rw [bytes_eq, e] at h
  simp at h
set_option maxHeartbeats 2000000 in
theorem scApart_wk {w : World} {ok ok' : Nat → Prop} {A A' : Option Addr} {n c n' c' : Nat} (x y : StepV) (hx : rngs x) (hy : rngs y) (h : Sl w ok (.slice A n c) x.2.2.2.2) (h' : Sl w ok' (.slice A' n' c') y.2.2.2.2) :
    Calls Tryd.prog 10 #[.agg #[.int .i64 x.1, .int .i64 x.2.1, .int .i64 x.2.2.1, .int .i64 x.2.2.2.1, .slice A n c], .agg #[.int .i64 y.1, .int .i64 y.2.1, .int .i64 y.2.2.1, .int .i64 y.2.2.2.1, .slice A' n' c']] w (Ret (.bool true) w) := by
  refine scApart_sx _ (fun _ => False) w _ _ _ _ A n c _ _ _ _ A' n' c' ?_
  intro g14 hg14 g15 hg15 w1 f1 b1 lo15 t15 lo14 t14
  refine (shown23_c w1).mono ?_
  rintro e w2 ⟨rfl, b2⟩
  have f2 := f1.step b2
  refine ⟨_, rfl, ok_ret b2 f1, fun g17 hg17 w3 f3 b3 lo17 t17 => ?_⟩
  have s3 := two_steps x y hx hy t17 (h.below (fr_below f3)) (h'.below (fr_below f3))
  refine (few23_c s3).mono ?_
  have ef : fewS [x, y] = [cutS x, cutS y] := rfl
  rw [ef]
  rintro e w4 ⟨A18, n19, n20, rfl, R4, b4⟩
  have f4 := f3.step b4
  have h19 : n19 = 2 := R4.len
  subst h19
  obtain ⟨p, o, A27, n28, n29, rfl, hc, hs⟩ := step_at R4.sl 0 (by simp)
  refine ⟨_, 2, n20, rfl, ok_ret b4 f3, by decide, by decide, p, o, rfl, _, _, _, _, A27, n28, n29, hc, ?_⟩
  refine (scPut_c _ hs).mono ?_
  rintro e w5 ⟨A30, n31, n32, rfl, o5, b5⟩
  have f5 := f4.step b5
  have R5 := R4.below b5
  obtain ⟨p', o', A40, n41, n42, hA', hc', hs'⟩ := step_at R5.sl 1 (by simp)
  refine ⟨A30, n31, n32, _, rfl, ok_ret b5 f4, by decide, by decide, p', o', hA', _, _, _, _, A40, n41, n42, hc', ?_⟩
  refine (scPut_c _ hs').mono ?_
  rintro e w6 ⟨A43, n44, n45, rfl, o6, b6⟩
  have f6 := f5.step b6
  have o56 := o5.below b6
  refine ⟨A43, n44, n45, _, rfl, ok_ret b6 f5, fun hne => ⟨fun _ => ret_leaf f6 rfl, fun hb => by cases hb⟩, fun h0 => ⟨fun hne => ⟨fun _ => ret_leaf f6 (by rw [bne_iff_ne.2 hne]), fun hb => by cases hb⟩, fun h1 => ?_⟩⟩
  have l0 := putS_len32 (x := cutS x) h0
  have l0' := putS_len (x := cutS x) h0
  have l1' := putS_len (x := cutS y) h1
  have l31 : n31 = (putS (cutS x)).1.length := o5.sl.len
  refine ⟨fun hz => by omega, fun hz => ⟨[], by simp, fun w7 f7 b7 => ?_⟩⟩
  obtain ⟨i, hi, hsz⟩ := infoS2
  have R7 := (R5.below b6).below b7
  obtain ⟨hr1, q1⟩ := cut_hi (P := Tryd.prog) 51 54 Tryd.underlying51 hi (k := 1) R7.sl (by decide)
  obtain ⟨A51, hr2, q2⟩ := cut_lo (P := Tryd.prog) 51 54 Tryd.underlying51 hi hsz (k := 1) R7.sl (by decide)
  refine ⟨_, 1, n20, fun w' _ => hr1 w', A51, _, _, fun w' _ => hr2 w', ?_⟩
  refine (same23_c q1 q2).mono ?_
  rintro e w8 ⟨rfl, b8⟩
  have f8 := f7.step b8
  refine ⟨_, rfl, ok_ret b8 f7, fun g55 hg55 w9 f9 b9 lo55 t55 => ?_⟩
  have o9 := ((o56.below b7).below b8).below b9
  have z1 : ∀ {u v : World}, u.heap.size ≤ v.heap.size → ∀ {k : Nat}, k < u.heap.size → k < v.heap.size := fun h _ hk => Nat.lt_of_lt_of_le hk h
  have w39 : w3.heap.size ≤ w9.heap.size := Nat.le_trans b4.size (Nat.le_trans b5.size (Nat.le_trans b6.size (Nat.le_trans b7.size (Nat.le_trans b8.size b9.size))))
  have w19 : w1.heap.size ≤ w9.heap.size := Nat.le_trans (Nat.le_trans b2.size b3.size) w39
  have r9 : Rw none w8 w8.heap.size 5 w9 (.slice (some ⟨g55, 0, none⟩) 0 0) ([] : List UInt8) [g55, g17, g15, g14] := Rw.first ((Fr.refl _ _).step b9) lo55 t55 (by
    simp only [List.mem_cons, List.not_mem_nil, or_false]
    rintro _ (rfl | rfl | rfl | rfl)
    · exact heap_lt t55
    · exact z1 w39 (heap_lt t17)
    · exact z1 w19 (heap_lt t15)
    · exact z1 w19 (heap_lt t14))
  obtain ⟨w10, A56, n57, n58, hr10, m10, r10⟩ := app_b r9 o9.sl (by simp only [List.length_nil]; show 0 + (putS (cutS x)).1.length ≤ _; omega)
  refine ⟨w10, A56, n57, n58, hr10, ⟨f8.step (fr_below (fr_none r10.fr)), m10⟩, fun g59 hg59 w11 f11 b11 lo59 t59 => ?_⟩
  have r11 := r10.on b11 [g59] (by simp only [List.mem_singleton]; rintro _ rfl; exact ⟨lo59, heap_lt t59⟩)
  have s11 : Sl w11 (fun _ => True) (.slice (some ⟨g59, 0, none⟩) 1 1) [(0 : UInt8)] := (OwnF.cells [(0 : UInt8)] 1 rfl (Nat.zero_le g59) t59 (by decide) (fun _ _ => trivial)).to fun _ _ => trivial
  obtain ⟨w12, A60, n61, n62, hr12, m12, r12⟩ := app_b r11 s11 (by show ([] ++ (putS (cutS x)).1).length + 1 ≤ _; rw [List.nil_append]; omega)
  have b812 := fr_below (fr_none r12.fr)
  have f12 := f8.step b812
  refine ⟨w12, A60, n61, n62, hr12, ⟨f12, m12⟩, ?_⟩
  have s12 : Sl w12 _ (.slice A60 n61 n62) ((putS (cutS x)).1 ++ [0]) := r12.own.sl
  refine (scTake_c s12 (by have := s12.len; rw [one_len] at this; omega)).mono ?_
  rintro e w13 ⟨A67, n68, n69, rfl, o13, b13⟩
  have f13 := f12.step b13
  refine ⟨_, _, _, _, A67, n68, n69, _, rfl, ok_ret b13 f12, fun g71 hg71 w14 f14 b14 lo71 t71 => ?_⟩
  have x14 := ((((o56.below b7).below b8).below b812).below b13).below b14
  have y14 := ((((o6.below b7).below b8).below b812).below b13).below b14
  obtain ⟨hr, sc⟩ := hi_b x14.sl (k := n31 - 1) (by omega)
  refine ⟨A30, n31 - 1, n32, by rw [show IntKind.i64.wrap ((n31 : Int) - 1) = ((n31 - 1 : Nat) : Int) by rw [wrap_in (by omega)]; omega]; exact hr _, ?_⟩
  have sc' : Sl w14 (fun _ => True) (.slice A30 (n31 - 1) n32) ((putS (cutS x)).1.take ((putS (cutS x)).1.length - 1)) := by rw [← l31]; exact sc.any
  refine (scTake_c sc' (by omega)).mono ?_
  rintro e w15 ⟨A79, n80, n81, rfl, o15, b15⟩
  refine ⟨_, _, _, _, A79, n80, n81, _, rfl, ok_ret b15 f14, fun g83 hg83 => ⟨fun _ w16 f16 b16 lo83 t83 => ⟨_, str_of ((x14.below b15).below b16).sl, _, str_of ((y14.below b15).below b16).sl, _, eql_bool .., fun _ => ⟨fun _ => ⟨fun _ => ret_leaf f16 (by rw [decide_eq_true (by omega)]), fun hne => absurd (takeS_cut h0) hne⟩, fun hne => absurd (takeS_more h0) hne⟩, fun hb => ?_⟩, fun hb => by cases hb⟩⟩
  exfalso
  exact apart_fin (cut_rng hx) (cut_rng hy) h0 h1 hb
theorem scriptApart_walk (w : World) (v1 : Value) (x : StepV) (h1 : Rep.K w (fun b => b < w.heap.size) x v1.cells.toList) (z1 : ∃ cs : Array Value, v1 = .agg cs) (v2 : Value) (y : StepV) (h2 : Rep.K w (fun b => b < w.heap.size) y v2.cells.toList) (z2 : ∃ cs : Array Value, v2 = .agg cs) :
    Calls Tryd.prog 10 #[v1, v2] w fun e w' => e = .returned (.bool true) ∧ Below w.heap.size w w' := by
  obtain ⟨hx, A, n, c, rfl, s⟩ := step_of h1 z1
  obtain ⟨hy, A', n', c', rfl, s'⟩ := step_of h2 z2
  exact scApart_wk x y hx hy s s'
end Go.Proofs.YtfjenamomipmdaaDoor
