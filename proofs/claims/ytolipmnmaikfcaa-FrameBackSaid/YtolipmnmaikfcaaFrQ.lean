/- Frames: the law FrameShort. -/
import Derived.Test.YtolipmnmaikfcaaFrZ
import Derived.Test.YtolipmnmaikfcaaFrP
import Derived.Test.YtolipmnmaikfcaaFrR
set_option linter.unusedSimpArgs false
set_option linter.unusedVariables false
namespace Go.Proofs.Ytolipmnmaikfcaa
open Go Go.RowKit Go.Proofs Go.Trc Go.Sx

theorem take_few {bs : List UInt8} (h : bs.length < 19) : (takeV bs).2 = 2 := by
  have : takeOk bs = false := by unfold takeOk; rw [decide_eq_false (by omega)]; simp
  unfold takeV; rw [this]; rfl
/-- A row of one's own with a byte in it. -/
theorem own_at {w : World} {base : Nat} {e : TypeId} {A : Option Addr} {n c : Nat} {xs : List UInt8} (h : OwnF w base e (.slice A n c) xs) (hp : 0 < xs.length) : ∃ g, A = some ⟨g, 0, none⟩ := by
  obtain ⟨cs, ⟨_, h2⟩, _⟩ := h
  rcases h2 with ⟨hv, hn⟩ | ⟨g, cap, cur, hv, _⟩
  · exfalso; omega
  · injection hv with e1 e2 e3; exact ⟨g, e1⟩

set_option maxHeartbeats 4000000 in
theorem frameShort_rest {w w5 : World} {kd fr to ep sq ak : Int} {A20 A24 : Option Addr} {n21 n22 n25 n26 g12 g23 : Nat} {bd ys : List UInt8} (hr : ∀ v ∈ [ep, sq, ak], -9223372036854775808 ≤ v ∧ v ≤ 9223372036854775807)
    (f5 : Fr (fun _ => False) w w5) (g12l : g12 < w5.heap.size) (g23l : g23 < w5.heap.size) (hbd : Sl w5 (fun b => b < w.heap.size) (.slice A20 n21 n22) bd) (hy : Sl w5 (fun _ => True) (.slice A24 n25 n26) ys) (ly : ys.length ≤ 18) :
Calls Try.prog 18 #[(.slice A24 n25 n26)] w5 fun r w6 => ∃ i27 : Int, ∃ i28 : Int, ∃ i29 : Int, ∃ i30 : Int, ∃ i31 : Int, ∃ i32 : Int, ∃ A33 : Option Addr, ∃ n34 : Nat, ∃ n35 : Nat, ∃ i36 : Int, r = .returned (.tuple #[.agg #[.int .i64 i27, .int .i64 i28, .int .i64 i29, .int .i64 i30, .int .i64 i31, .int .i64 i32, .slice A33 n34 n35], .int .i64 i36]) ∧ (Go.Sx.Fr (fun _ => False) w w6 ∧ Go.Sx.Mild [g23, g12] w5 w6) ∧ 
  ∀ g37 : Nat, w.heap.size ≤ g37 → (∀ w7 : World, Go.Sx.Fr (fun _ => False) w w7 → Below w6.heap.size w6 w7 → w6.heap.size ≤ g37 → w7.heap[g37]? = some (.cells #[.int .i64 i27, .int .i64 i28, .int .i64 i29, .int .i64 i30, .int .i64 i31, .int .i64 i32, .slice A33 n34 n35] 24 (0, 0)) → 
  Calls Try.prog 11 #[(.agg #[.int .i64 kd, .int .i64 fr, .int .i64 to, .int .i64 ep, .int .i64 sq, .int .i64 ak, .slice A20 n21 n22])] w7 fun r w8 => ∃ A38 : Option Addr, ∃ n39 : Nat, ∃ n40 : Nat, ∃ i41 : Int, r = .returned (.tuple #[.slice A38 n39 n40, .int .i64 i41]) ∧ (Go.Sx.Fr (fun _ => False) w w8 ∧ Go.Sx.Mild [g37, g23, g12] w7 w8) ∧ 
  ((¬ i41 = (0 : Int) →
  ((true = true →
   ((Ret (.bool true) w) (.returned (.bool (i36 == (2 : Int)))) w8)) ∧
   (true = false →
   ((Ret (.bool true) w) (.returned (.bool false)) w8)))) ∧
  (i41 = (0 : Int) →
  (((1000 : Int) < (n21 : Int) →
   ((true = true →
    ((Ret (.bool true) w) (.returned (.bool (i36 == (2 : Int)))) w8)) ∧
    (true = false →
    ((Ret (.bool true) w) (.returned (.bool false)) w8)))) ∧
   ((n21 : Int) ≤ (1000 : Int) →
   (
    Calls Try.prog 18 #[(.slice A38 n39 n40)] w8 fun r w9 => ∃ i42 : Int, ∃ i43 : Int, ∃ i44 : Int, ∃ i45 : Int, ∃ i46 : Int, ∃ i47 : Int, ∃ A48 : Option Addr, ∃ n49 : Nat, ∃ n50 : Nat, ∃ i51 : Int, r = .returned (.tuple #[.agg #[.int .i64 i42, .int .i64 i43, .int .i64 i44, .int .i64 i45, .int .i64 i46, .int .i64 i47, .slice A48 n49 n50], .int .i64 i51]) ∧ (Go.Sx.Fr (fun _ => False) w w9 ∧ Go.Sx.Mild [g37, g23, g12] w8 w9) ∧ 
    ∀ g52 : Nat, w.heap.size ≤ g52 → (∃ (I0 : Int → World → Prop) (M0 : Int → World → Nat), (∀ w10 : World, Go.Sx.Fr (fun _ => False) w w10 → Below w9.heap.size w9 w10 → w9.heap.size ≤ g52 → w10.heap[g52]? = some (.cells #[.int .i64 i42, .int .i64 i43, .int .i64 i44, .int .i64 i45, .int .i64 i46, .int .i64 i47, .slice A48 n49 n50] 24 (0, 0)) → I0 (0 : Int) w10) ∧
    ∀ i53 : Int, ∀ w11 : World, Go.Sx.Fr (fun _ => False) w w11 → I0 i53 w11 → 
     ((i53 < (n39 : Int) →
     ((0 : Int) ≤ i53 ∧ i53 < (n39 : Int) ∧ ∃ p54 : Nat, ∃ o55 : Nat, A38 = some ⟨p54, o55, none⟩ ∧
      (
      ∃ w12 : World, (Instr.storeAt 5 (.pointer (some ⟨p54, o55 + (i53).toNat * 1 + 0, none⟩)) (.int .u8 (7 : Int))).run Try.prog w11 = .ok () w12 ∧ (Go.Sx.Fr (fun _ => False) w w12 ∧ Go.Sx.Mild [g52, g37, g23, g12] w11 w12) ∧ 
      (I0 (IntKind.i64.wrap (i53 + (1 : Int))) w12 ∧ M0 (IntKind.i64.wrap (i53 + (1 : Int))) w12 < M0 i53 w11)))) ∧
     ((n39 : Int) ≤ i53 →
     (
      Calls Try.prog 17 #[(.agg #[.int .i64 i42, .int .i64 i43, .int .i64 i44, .int .i64 i45, .int .i64 i46, .int .i64 i47, .slice A48 n49 n50]), (.agg #[.int .i64 kd, .int .i64 fr, .int .i64 to, .int .i64 ep, .int .i64 sq, .int .i64 ak, .slice A20 n21 n22])] w11 fun r w12 => ∃ b54 : Bool, r = .returned (.bool b54) ∧ (Go.Sx.Fr (fun _ => False) w w12 ∧ Go.Sx.Mild [g52, g37, g23, g12] w11 w12) ∧ 
      ((true = true →
      ((i36 = (2 : Int) →
       ((i51 = (0 : Int) →
        ((Ret (.bool true) w) (.returned (.bool b54)) w12)) ∧
        (¬ i51 = (0 : Int) →
        ((Ret (.bool true) w) (.returned (.bool false)) w12)))) ∧
       (¬ i36 = (2 : Int) →
       ((Ret (.bool true) w) (.returned (.bool false)) w12)))) ∧
      (true = false →
      ((Ret (.bool true) w) (.returned (.bool false)) w12)))))))))))))
  := by
  have hn := hbd.len
  have hyl := hy.len
  refine (take_c (Sl.here hy) (by omega)).mono ?_
  rintro e w6 ⟨A33, n34, n35, rfl, s6, b6⟩
  have f6 := f5.step b6
  refine ⟨_, _, _, _, _, _, A33, n34, n35, _, rfl, ok_ret b6 f5, ?_⟩
  have e2 := take_few (bs := ys) (by omega)
  intro g37 hg37 w7 f7 b7 lo37 t37
  have s7 : Sl w7 (fun b => b < w.heap.size) (.slice A20 n21 n22) bd := Sl.same hbd f5 f7
  refine (put_c hr (Sl.any s7)).mono ?_
  rintro e w8 ⟨A38, n39, n40, rfl, o8, b8⟩
  have f8 := f7.step b8
  refine ⟨A38, n39, n40, _, rfl, ok_ret b8 f7, ?_⟩
  refine ⟨fun hne => ⟨fun _ => ret_leaf f8 (by rw [e2]; rfl), fun h => by cases h⟩, fun hm => ⟨fun _ => ⟨fun _ => ret_leaf f8 (by rw [e2]; rfl), fun h => by cases h⟩, fun hle => ?_⟩⟩
  rw [if_pos hm] at o8
  rw [hn] at hm
  have l38 := (o8.to (ok := fun _ => True) fun _ _ => trivial).len_eq
  rw [put_len] at l38
  refine (take_c (Sl.here (o8.to (ok := fun _ => True) fun _ _ => trivial)) (by omega)).mono ?_
  rintro e w9 ⟨A48, n49, n50, rfl, s9, b9⟩
  have f9 := f8.step b9
  refine ⟨_, _, _, _, _, _, A48, n49, n50, _, rfl, ok_ret b9 f8, ?_⟩
  rw [take_put hm] at s9 ⊢
  intro g52 hg52
  refine ⟨fun i w10 => ∃ k : Nat, i = k ∧ k ≤ n39 ∧ g52 < w10.heap.size ∧ (∃ zs : List UInt8, zs.length = n39 ∧ OwnF w10 w7.heap.size 5 (.slice A38 n39 n40) zs) ∧ (∀ k, (Value.slice A38 n39 n40).ownBlock = some k → k < w8.heap.size) ∧ w9.heap.size ≤ g52 ∧
      Sl w10 (fun b => w8.heap.size ≤ b) (.slice A48 n49 n50) bd ∧ Sl w10 (fun b => b < w.heap.size) (.slice A20 n21 n22) bd, fun i _ => (n39 - i.toNat), ?_, ?_⟩
  · intro w10 f10 b10 lo52 t52
    exact ⟨0, rfl, Nat.zero_le _, heap_lt t52, ⟨_, by rw [put_len]; omega, (o8.below b9).below b10⟩, fun k hk => (o8.lt k hk).2, lo52, s9.below b10, Sl.same s7 f7 f10⟩
  rintro i53 w11 f11 ⟨k, rfl, hk, lt52, ⟨zs, hz, oz⟩, hown, lo52, sx, sb⟩
  refine ⟨fun hlt => ?_, fun hge => ?_⟩
  · obtain ⟨g, rfl⟩ := own_at oz (by omega)
    have gb := hown g rfl
    have g7 := (oz.lt g rfl).1
    have g37l : g37 < w7.heap.size := heap_lt t37
    have n5 : w5.heap.size ≤ w7.heap.size := Nat.le_trans b6.size b7.size
    have n9 := b9.size
    obtain ⟨w12, hr12, o12, gr12⟩ := own_set_byte (P := Try.prog) (t := 5) rfl rfl oz k (by omega) 7
    refine ⟨by omega, by omega, g, 0, rfl, w12, ?_, ⟨grown_fr (B := 0) gr12 f11 (fun k' hk' => by injection hk' with hk'; have := f7.size; omega), grown_mild gr12 fun b' hb' hh => ?_⟩, ⟨k + 1, ?_, by omega, ?_, ⟨_, ?_, o12⟩, hown, lo52, ?_, ?_⟩, ?_⟩
    · simpa using hr12
    · injection hh with hh
      subst hh
      simp only [List.mem_cons, List.not_mem_nil, or_false] at hb'
      rcases hb' with rfl | rfl | rfl | rfl <;> omega
    · rw [wrap_in (by omega)]; rfl
    · exact Nat.lt_of_lt_of_le lt52 gr12.size
    · rw [List.length_set]; exact hz
    · exact sx.grown gr12 fun b hb hh => by injection hh with hh; omega
    · exact sb.grown gr12 fun b hb hh => by injection hh with hh; have := f7.size; omega
    · rw [wrap_in (by omega)]; show n39 - ((k : Int) + 1).toNat < n39 - (k : Int).toNat; omega
  · have := same_c (kd := kd) (fr := fr) (to := to) (ep := ep) (sq := sq) (ak := ak) (kd' := kd) (fr' := fr) (to' := to) (ep' := ep) (sq' := sq) (ak' := ak) sx sb
    rw [same_self] at this
    refine this.mono ?_
    rintro e w12 ⟨rfl, b12⟩
    exact ⟨_, rfl, ok_ret b12 f11, fun _ => ⟨fun _ => ⟨fun _ => ret_leaf (f11.step b12) rfl, fun h => absurd rfl h⟩, fun h => absurd e2 h⟩, fun h => by cases h⟩

set_option maxHeartbeats 4000000 in
theorem frameShort_wk {w : World} {kd fr to ep sq ak : Int} {A A9 : Option Addr} {n c n10 n11 : Nat} {bd bs : List UInt8} (hr : ∀ v ∈ [ep, sq, ak], -9223372036854775808 ≤ v ∧ v ≤ 9223372036854775807) (hbd : Sl w (fun b => b < w.heap.size) (.slice A n c) bd)
    (hb : Sl w (fun b => b < w.heap.size) (.slice A9 n10 n11) bs) :
    Calls Try.prog 8 #[.agg #[.int .i64 kd, .int .i64 fr, .int .i64 to, .int .i64 ep, .int .i64 sq, .int .i64 ak, .slice A n c], .slice A9 n10 n11] w (Ret (.bool true) w) := by
  have hn := hb.len_eq
  refine frameShort_sx _ (fun _ => False) w kd fr to ep sq ak A n c A9 n10 n11 ?_
  intro g12 hg12 w1 f1 b1 lo12 t12
  have l1 := heap_lt t12
  refine (shown_c w1).mono ?_
  rintro e w2 ⟨rfl, b2⟩
  have f2 := f1.step b2
  refine ⟨_, rfl, ok_ret b2 f1, ?_⟩
  refine (few_c (Sl.same (hbd.below b1) f1 f2)).mono ?_
  rintro e w3 ⟨A', n', c', rfl, s3, b3⟩
  have f3 := f2.step b3
  refine ⟨_, _, _, _, _, _, A', n', c', rfl, ok_ret b3 f2, ?_⟩
  have l3 : g12 < w3.heap.size := Nat.lt_of_lt_of_le l1 (Nat.le_trans b2.size b3.size)
  refine ⟨fun hlt w4 f4 q4 => ?_, fun hle g23 hg23 w4 f4 q4 lo23 t23 => ?_⟩
  · have hs1 := run_slice_hi (P := Try.prog) (w := w4) 22 5 _ Try.underlying22 rfl A9 n10 n11 18 (by omega)
    rw [if_neg (by omega)] at hs1
    obtain ⟨p, o, rfl, _⟩ := hb.at_ (by omega)
    rw [show (some ⟨p, o, none⟩ : Option Addr).map (·.add 0) = some ⟨p, o, none⟩ by simp [add_plain]] at hs1
    refine ⟨_, 18, n11, hs1, ?_⟩
    have s4 : Sl w4 (fun b => b < w.heap.size) (.slice (some ⟨p, o, none⟩) 18 n11) (bs.take 18) := (hb.below (fr_below f4)).take 18 n11 (by omega) (by omega) (by omega)
    intro g26 hg26 w5 f5 b5 lo26 t26
    obtain ⟨w6, A6, n6, c6, hr6, s6, b6⟩ := app0 (g := g26) (s4.below b5) (by omega)
    refine ⟨w6, A6, n6, c6, hr6, ok_below f5 b6, ?_⟩
    have z : w3.heap.size ≤ w6.heap.size := Nat.le_trans q4.size (Nat.le_trans b5.size b6.size)
    exact frameShort_rest hr (f5.step b6) (by omega) (Nat.lt_of_lt_of_le (heap_lt t26) b6.size) (Sl.same s3 f2 (f5.step b6)) (Sl.any s6) (by simp; omega)
  · obtain ⟨w6, A6, n6, c6, hr6, s6, b6⟩ := app0 (g := g23) (hb.below (fr_below f4)) (by omega)
    refine ⟨w6, A6, n6, c6, hr6, ok_below f4 b6, ?_⟩
    have z : w3.heap.size ≤ w6.heap.size := Nat.le_trans q4.size b6.size
    exact frameShort_rest hr (f4.step b6) (by omega) (Nat.lt_of_lt_of_le (heap_lt t23) b6.size) (Sl.same s3 f2 (f4.step b6)) (Sl.any s6) (by omega)
theorem frameShort_walk (w : World) (v : Value) (x : FrT) (h : Rep.K w (fun b => b < w.heap.size) x v.cells.toList) (A : Option Addr) (n c : Nat) (xs : List UInt8) (hs' : Sl w (fun b => b < w.heap.size) (.slice A n c) xs) :
    Calls Try.prog 8 #[v, .slice A n c] w fun e w' => e = .returned (.bool true) ∧ Below w.heap.size w w' := by
  obtain ⟨A', n', c', rfl, hr, hs⟩ := frame_of h
  exact frameShort_wk hr hs hs'
end Go.Proofs.Ytolipmnmaikfcaa
