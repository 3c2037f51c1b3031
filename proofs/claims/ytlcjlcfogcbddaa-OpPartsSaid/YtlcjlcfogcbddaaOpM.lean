/- The law OpMay. -/
import Derived.Test.YtlcjlcfogcbddaaOpN
import Derived.Test.YtlcjlcfogcbddaaLaw09a
import Derived.Test.YtlcjlcfogcbddaaLawZero
set_option linter.unusedSimpArgs false
set_option linter.unusedVariables false
namespace Go.Proofs.Ytlcjlcfogcbddaa
open Go Go.RowKit Go.Proofs Go.Trc Go.Sx

set_option maxHeartbeats 4000000 in
theorem opMay_wk {w : World} (o : OpV) (ho : o.ok) (htx : o.tx.size ≤ maxLen) {A A' : Option Addr} {n c n' c' : Nat} {xs ys : List OpV} (h : Sl w (fun b => b < w.heap.size) (.slice A n c) xs) (h' : Sl w (fun b => b < w.heap.size) (.slice A' n' c') ys) :
    Calls Try.prog 7 #[.agg o.cells, .agg #[.slice A n c], .agg #[.slice A' n' c']] w (Ret (.bool true) w) := by
  refine opMay_sx _ (fun _ => False) w o.kd o.s o.n o.s1 o.n1 o.s2 o.n2 o.a1 o.a2 o.a3 o.a4 o.a5 o.b1 o.b2 o.b3 o.b4 o.b5 o.oe o.tx o.nn A n c A' n' c' ?_
  intro g26 hg26 g27 hg27 g28 hg28 w1 f1 b1
  refine (shown_c w1).mono ?_
  rintro e w2 ⟨rfl, b2⟩
  have f2 := f1.step b2
  refine ⟨_, rfl, ok_ret b2 f1, ?_⟩
  refine (few_c (h.below (fr_below f2))).mono ?_
  rintro e w3 ⟨n3, rfl, hn3, s3, b3⟩
  have f3 := f2.step b3
  refine ⟨A, n3, c, rfl, ok_ret b3 f2, fun w4 f4 _ => ?_⟩
  refine (few_c (h'.below (fr_below f4))).mono ?_
  rintro e w5 ⟨n5, rfl, hn5, s5, b5⟩
  have f5 := f4.step b5
  refine ⟨A', n5, c', rfl, ok_ret b5 f4, fun w6 f6 _ w7 f7 b7 => ?_⟩
  have s7 := s3.same f2 f7
  have t7 := s5.same f4 f7
  refine (names_c s7 (by omega)).mono ?_
  rintro e w8 ⟨A8, n8, c8, rfl, o8, b8⟩
  have f8 := f7.step b8
  refine ⟨A8, n8, c8, rfl, ok_ret b8 f7, keep_below b8 b7.size, ?_⟩
  refine (ref_names_c (s7.same f7 f8) (by omega)).mono ?_
  rintro e w9 ⟨A9, n9, c9, rfl, o9, b9⟩
  have f9 := f8.step b9
  refine ⟨A9, n9, c9, rfl, ok_ret b9 f8, ?_⟩
  refine (ids_c (o8.below b9).sl o9.sl).mono ?_
  rintro e w10 ⟨rfl, b10⟩
  have f10 := f9.step b10
  refine ⟨_, rfl, ok_ret b10 f9, fun _ w11 f11 b11 => ?_, fun h => by cases h⟩
  refine (may_c w11 o ho).mono ?_
  rintro e w12 ⟨rfl, b12⟩
  have f12 := f11.step b12
  refine ⟨_, rfl, ok_ret b12 f11, keep_below b12 b11.size, ?_⟩
  refine (ref_may_c w12 o htx).mono ?_
  rintro e w13 ⟨rfl, b13⟩
  have f13 := f12.step b13
  have k13 := Nat.le_trans b11.size b12.size
  refine ⟨_, rfl, ok_ret b13 f12, keep_below b13 k13, fun _ => ?_, fun h => absurd rfl h⟩
  have s13 := s7.same f7 f13
  refine (mayEdit_c w13 _ A n3 c _ s13).mono ?_
  rintro e w14 ⟨rfl, b14⟩
  have f14 := f13.step b14
  have k14 := Nat.le_trans k13 b13.size
  refine ⟨_, rfl, ok_ret b14 f13, keep_below b14 k14, ?_⟩
  refine (ref_mayEdit_c w14 _ A n3 c _ (s13.same f13 f14)).mono ?_
  rintro e w15 ⟨rfl, b15⟩
  have f15 := f14.step b15
  have k15 := Nat.le_trans k14 b14.size
  refine ⟨_, rfl, ok_ret b15 f14, keep_below b15 k15, fun _ => ?_, fun h => absurd rfl h⟩
  refine (same_c (s13.same f13 f15) (t7.same f7 f15)).mono ?_
  rintro e w16 ⟨rfl, b16⟩
  have f16 := f15.step b16
  refine ⟨_, rfl, ok_ret b16 f15, keep_below b16 (Nat.le_trans k15 b15.size), ?_⟩
  refine (ref_same_c (s13.same f13 f16) (t7.same f7 f16)).mono ?_
  rintro e w17 ⟨rfl, b17⟩
  have f17 := f16.step b17
  refine ⟨_, rfl, ok_ret b17 f16, _, eql_bool w17 _ _, fun _ => ret_leaf f17 (by simp), fun h => ?_⟩
  simp at h

theorem edit_of {w : World} {ok : Nat → Prop} {v : Value} {xs : List OpV} (h : Rep.K w ok xs v.cells.toList) (z : ∃ cs : Array Value, v = .agg cs) : ∃ A n c, v = .agg #[.slice A n c] ∧ Sl w ok (.slice A n c) xs := by
  obtain ⟨cs, rfl⟩ := z
  obtain ⟨u, hu, hs⟩ := h
  obtain ⟨A, c, rfl, _⟩ := id hs
  refine ⟨A, _, c, ?_, hs⟩
  have : cs.toList = [.slice A xs.length c] := hu
  rw [show cs = #[.slice A xs.length c] from Array.ext' this]
theorem rd_edit : Rd Try.prog 38 (List OpV) := rd_struct Try.underlying38 (by kernel_rfl) (rdF_last (by kernel_rfl) (rd_slice Try.underlying36 (by kernel_rfl) rd_op))
theorem opMay_walk (w : World) (v : Value) (o : OpV) (h : Rep.K w (fun b => b < w.heap.size) o v.cells.toList) (v1 : Value) (xs : List OpV) (h1 : Rep.K w (fun b => b < w.heap.size) xs v1.cells.toList) (z1 : ∃ cs : Array Value, v1 = .agg cs)
    (v2 : Value) (ys : List OpV) (h2 : Rep.K w (fun b => b < w.heap.size) ys v2.cells.toList) (z2 : ∃ cs : Array Value, v2 = .agg cs) :
    Calls Try.prog 7 #[v, v1, v2] w fun e w' => e = .returned (.bool true) ∧ Below w.heap.size w w' := by
  obtain rfl : v = .agg o.cells := agg_of h.1 (by simp [OpV.cells])
  obtain ⟨A, n, c, rfl, s⟩ := edit_of h1 z1
  obtain ⟨A', n', c', rfl, s'⟩ := edit_of h2 z2
  exact opMay_wk o h.2.1 h.2.2 s s'
end Go.Proofs.Ytlcjlcfogcbddaa
