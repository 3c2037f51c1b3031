/- Net: the law NetPlays. -/
import Derived.Test.YtdjjfpcfclheiaaNetH
import Derived.Test.YtdjjfpcfclheiaaNetL
set_option linter.unusedSimpArgs false
set_option linter.unusedVariables false
namespace Go.Proofs.Ytdjjfpcfclheiaa
open Go Go.RowKit Go.Proofs Go.Trc Go.Sx
def NPI (w : World) (n g5 : Nat) (v7 : Value) (b8 : Bool) (i9 : Int) (A10 : Option Addr) (n11 n12 : Nat) (i13 i14 i15 i16 i17 i18 : Int) (w' : World) : Prop :=
  ∃ (k gn : Nat) (s : NS) (F : List Nat), v7 = Np gn ∧ i9 = k ∧ k ≤ n ∧ k ≤ 80 ∧ Net w' gn s.1 s.2 F ∧ RNet w' g5 (6 * k) s.1 s.2 ∧ (∀ b ∈ F, w.heap.size ≤ b) ∧ g5 ∉ F
def NPM (n : Nat) (v7 : Value) (b8 : Bool) (i9 : Int) (A10 : Option Addr) (n11 n12 : Nat) (i13 i14 i15 i16 i17 i18 : Int) (w' : World) : Nat := (n - i9 : Int).toNat
theorem nplays_does {w w4 w8 : World} {g5 gn n k n' c' n11 n12 : Nat} {s : NS} {F G : List Nat} {A' A10 : Option Addr} {fs : List FV} {v7 : Value} {b8 : Bool} {i13 i14 i15 i16 i17 i18 : Int} (f8 : Fr (fun _ => False) w w8) (hw : w.heap.size ≤ g5) (hn : Net w8 gn s.1 s.2 F) (hy : RNet w8 g5 (6 * k) s.1 s.2) (ge : ∀ b ∈ F, w.heap.size ≤ b) (hd : g5 ∉ F)
    (hG : ∀ b ∈ G, b ∉ g5 :: F) (hf : Fs w8 (fun b => b < w.heap.size) (.slice A' n' c') fs) (hk : k < n) (hk80 : k < 80) (hmax : (n : Int) ≤ 9223372036854775807) (kd i a : Int) :
    Calls Try.prog 38 #[Np gn, Np g5, .agg #[.int .i64 kd, .int .i64 i, .int .i64 a, .slice A' n' c']] w8 fun r w9 => ∃ b27 : Bool, ∃ A28 : Option Addr, ∃ n29 : Nat, ∃ n30 : Nat, ∃ i31 : Int, ∃ i32 : Int, ∃ i33 : Int, ∃ i34 : Int, ∃ i35 : Int, ∃ i36 : Int, r = .returned (.bool b27) ∧ (Fr (fun _ => False) w w9 ∧ Mild G w8 w9) ∧ w9.heap[g5]? = some (.cells #[.slice A28 n29 n30, .int .i64 i31, .int .i64 i32, .int .i64 i33, .int .i64 i34, .int .i64 i35, .int .i64 i36] TR (0, 0)) ∧
      (∃ T37 : List Nat, (∀ b ∈ T37, b < w9.heap.size ∧ b ∉ G ++ [g5]) ∧ ((b27 = false → (∀ w10 : World, Fr (fun _ => False) w w10 → Below w9.heap.size w9 w10 → Ret (.bool true) w (.returned (.bool false)) w10)) ∧
      (b27 = true → (∀ w10 : World, Fr (fun _ => False) w w10 → Below w9.heap.size w9 w10 →
        Calls Try.prog 29 #[Np gn] w10 fun r w11 => ∃ i38 : Int, r = .returned (.int .i64 i38) ∧ (Fr (fun _ => False) w w11 ∧ Mild (G ++ [g5]) w10 w11) ∧ Keep w9.heap.size (T37 ++ []) w10 w11 ∧
        ((¬ i38 = (n29 : Int) → (Ret (.bool true) w (.returned (.bool false)) w11)) ∧
        (i38 = (n29 : Int) → (NPI w n g5 (Np gn) b8 (IntKind.i64.wrap ((k : Int) + (1 : Int))) A28 n29 n30 i31 i32 i33 i34 i35 i36 w11 ∧ NPM n (Np gn) b8 (IntKind.i64.wrap ((k : Int) + (1 : Int))) A28 n29 n30 i31 i32 i33 i34 i35 i36 w11 < NPM n v7 b8 (k : Int) A10 n11 n12 i13 i14 i15 i16 i17 i18 w4))))))) := by
  refine (does_c hn hy hd (ok := fun b => b < w.heap.size) (fun b hb h => by have := ge b hb; omega) (by omega) hf (by omega) kd i a).mono ?_
  rintro e w9 ⟨rfl, F9, n9, y9, u9, ap⟩
  obtain ⟨A, m, c, t0, t1, t2, t3, t4, t5, th, hm, -⟩ := y9.told
  have ge5 : ∀ b ∈ g5 :: F, w.heap.size ≤ b := by
    intro b hb
    rcases List.mem_cons.1 hb with rfl | hb
    · exact hw
    · exact ge b hb
  have f9 := up_fr f8 u9 ge5
  have ge9 := up_ge u9 ge5 f8.size
  refine ⟨true, A, m, c, t0, t1, t2, t3, t4, t5, rfl, ⟨f9, mild_up u9 hG⟩, th, [], (fun b hb => by cases hb), (fun h => by cases h), fun _ w10 f10 b10 => ?_⟩
  refine (nLen (n9.below b10)).mono ?_
  rintro e w11 ⟨rfl, b11⟩
  have b911 := b10.trans (b11.mono b10.size)
  refine ⟨_, rfl, ok_ret b11 f10, keep_below b11 b10.size, fun hne => absurd (by rw [hm]) hne, fun _ => ⟨⟨k + 1, gn, _, F9, rfl, by rw [wrap_in (by omega)]; rfl, hk, hk80, n9.below b911, y9.below b911, fun b hb => ge9 b (by simp [hb]), ap⟩, ?_⟩⟩
  unfold NPM
  rw [wrap_in (by omega)]
  omega
set_option maxHeartbeats 8000000 in
theorem netPlays_walk (w : World) (A : Option Addr) (n c : Nat) (xs : List OpT) (h : Sl w (fun b => b < w.heap.size) (.slice A n c) xs) :
    Calls Try.prog 10 #[.slice A n c] w fun e w' => e = .returned (.bool true) ∧ Below w.heap.size w w' := by
  have hlen := h.len_eq
  refine netPlays_sx (Ret (.bool true) w) (fun _ => False) w A n c ?_
  refine (netShown_c w).mono ?_
  rintro e w1 ⟨rfl, b1⟩
  have f1 := (Fr.refl (fun _ => False) w).step b1
  refine ⟨_, rfl, ok_ret b1 (Fr.refl _ _), ?_⟩
  refine (netNew_c w1).mono ?_
  rintro e w2 ⟨gn, F, n2, ge2, b2, rfl⟩
  have f2 := f1.step b2
  have lo1 := f1.size
  have lo2 := f2.size
  refine ⟨_, rfl, ok_ret b2 f1, ?_⟩
  intro g5 hg5
  refine ⟨(fun h => by cases h), fun _ w3 f3 b3 lo5 t5 => ⟨_, eql_net w3 _, (fun h => by cases h), fun _ => ?_⟩⟩
  have hd2 : g5 ∉ F := fun hm => by have := n2.lt g5 hm; omega
  refine ⟨NPI w n g5, NPM n, ⟨0, gn, ([], List.replicate 6 0), F, rfl, rfl, Nat.zero_le _, by omega, n2.below b3, rnet_new t5, fun b hb => Nat.le_trans lo1 (ge2 b hb), hd2⟩, ?_⟩
  rintro v7 b8 i9 A10 n11 n12 i13 i14 i15 i16 i17 i18 w4 f4 ⟨k, gn, s, F, rfl, rfl, hk, hk80, hn, hy, ge, hd⟩ t4
  have hx : ∀ {w'}, Fr (fun _ => False) w w' → Sl w' (fun b => b < w.heap.size) (.slice A n c) xs := fun f => h.below (fr_below f)
  have h5lt := hy.lt
  have fin : ∃ T19 : List Nat, (∀ b ∈ T19, b < w4.heap.size ∧ b ∉ [g5]) ∧
      (((∀ w5 : World, Fr (fun _ => False) w w5 → Below w4.heap.size w4 w5 →
      Calls Try.prog 36 #[Np gn] w5 fun r w6 => ∃ A20 : Option Addr, ∃ n21 : Nat, ∃ n22 : Nat, r = .returned (.slice A20 n21 n22) ∧ (Fr (fun _ => False) w w6 ∧ Mild [g5] w5 w6) ∧
      (w6.heap[g5]? = some (.cells #[.slice A10 n11 n12, .int .i64 i13, .int .i64 i14, .int .i64 i15, .int .i64 i16, .int .i64 i17, .int .i64 i18] TR (0, 0)) → ∃ A23 : Option Addr, ∃ n24 : Nat, ∃ n25 : Nat, (Instr.sliceAt 63 (.pointer (some ⟨g5, 1, none⟩)) none none none).run Try.prog w6 = .ok (.slice A23 n24 n25) w6 ∧
      (Calls Try.prog 15 #[(.slice A20 n21 n22), (.slice A23 n24 n25)] w6 fun r w7 => ∃ b26 : Bool, r = .returned (.bool b26) ∧ (Fr (fun _ => False) w w7 ∧ Mild [g5] w6 w7) ∧
      (Ret (.bool true) w (.returned (.bool b26)) w7))))) ∧
      ((∀ w5 : World, Fr (fun _ => False) w w5 → Below w4.heap.size w4 w5 → w5.heap[g5]? = some (.cells #[.slice A10 n11 n12, .int .i64 i13, .int .i64 i14, .int .i64 i15, .int .i64 i16, .int .i64 i17, .int .i64 i18] TR (0, 0)) → ∃ A20 : Option Addr, ∃ n21 : Nat, ∃ n22 : Nat, (∀ w', Keep w4.heap.size (T19 ++ []) w5 w' → (Instr.sliceAt 63 (.pointer (some ⟨g5, 1, none⟩)) none none none).run Try.prog w' = .ok (.slice A20 n21 n22) w') ∧
      (Calls Try.prog 36 #[Np gn] w5 fun r w6 => ∃ A23 : Option Addr, ∃ n24 : Nat, ∃ n25 : Nat, r = .returned (.slice A23 n24 n25) ∧ (Fr (fun _ => False) w w6 ∧ Mild [g5] w5 w6) ∧
      (Calls Try.prog 15 #[(.slice A23 n24 n25), (.slice A20 n21 n22)] w6 fun r w7 => ∃ b26 : Bool, r = .returned (.bool b26) ∧ (Fr (fun _ => False) w w7 ∧ Mild [g5] w6 w7) ∧
      (Ret (.bool true) w (.returned (.bool b26)) w7)))))) := by
    have core : ∀ w5 : World, Fr (fun _ => False) w w5 → Below w4.heap.size w4 w5 → Calls Try.prog 36 #[Np gn] w5 fun r w6 => ∃ A20 : Option Addr, ∃ n21 : Nat, ∃ n22 : Nat, r = .returned (.slice A20 n21 n22) ∧ (Fr (fun _ => False) w w6 ∧ Mild [g5] w5 w6) ∧
        (Calls Try.prog 15 #[(.slice A20 n21 n22), (.slice (some ⟨g5, 1, none⟩) 6 6)] w6 fun r w7 => ∃ b26 : Bool, r = .returned (.bool b26) ∧ (Fr (fun _ => False) w w7 ∧ Mild [g5] w6 w7) ∧ (Ret (.bool true) w (.returned (.bool b26)) w7)) := by
      intro w5 f5 b5
      have n5 := hn.below b5
      refine (nTally n5).mono ?_
      rintro e w6 ⟨F6, A6, m6, c6, n6, u6, o6, rfl⟩
      have f6 := up_fr f5 u6 ge
      have y6 := (hy.below b5).past u6 hd n5.loud
      refine ⟨A6, m6, c6, rfl, ⟨f6, mild_up u6 fun b hb hm => by simp at hb; subst hb; exact hd hm⟩, ?_⟩
      refine (ints_c o6.sl (y6.row (by omega))).mono ?_
      rintro e w7 ⟨rfl, b7⟩
      exact ⟨_, rfl, ok_ret b7 f6, ret_leaf (f6.step b7) (by simp)⟩
    refine ⟨[], (fun b hb => by cases hb), fun w5 f5 b5 => (core w5 f5 b5).mono ?_, fun w5 f5 b5 _ => ⟨_, _, _, fun w' _ => run_all6 w' g5, core w5 f5 b5⟩⟩
    rintro e w6 ⟨A6, m6, c6, rfl, q, r⟩
    exact ⟨A6, m6, c6, rfl, q, fun _ => ⟨_, _, _, run_all6 w6 g5, r⟩⟩
  refine ⟨fun hlt => ⟨fun h80 => ⟨by decide, fun h8 => ?_, fun h8 => ?_⟩, fun h80 => fin⟩, fun hge => fin⟩
  · refine (nClone hn).mono ?_
    rintro e w5 ⟨g', F1, F2, n1, n5, u5, ge5', d5, rfl⟩
    have f5 := up_fr f4 u5 ge
    have ge1 := up_ge u5 ge f4.size
    have y5 := hy.past u5 hd hn.loud
    have d1 : g5 ∉ F1 := apart_up (G := [g5]) u5 (by simp; exact h5lt) (by intro b hb; simp at hb; subst hb; exact hd) g5 (by simp)
    have d2 : g5 ∉ F2 := fun hm => by have := ge5' g5 hm; omega
    have ge2' : ∀ b ∈ F2, w.heap.size ≤ b := fun b hb => Nat.le_trans f4.size (ge5' b hb)
    refine ⟨_, rfl, ⟨f5, mild_up u5 fun b hb hm => by simp at hb; subst hb; exact hd hm⟩, _, eql_net w5 _, (fun h => by cases h), fun _ => ?_⟩
    intro g12 hg12 w6 f6 b6 lo12 t12
    have n16 := n1.below b6
    have lt1 := n1.lt
    have lt5 := n5.lt
    have lt12 := heap_lt t12
    have fs : Fs w6 (fun b => b = g12) (.slice (some ⟨g12, 0, none⟩) 1 1) [ack1] := fs_one (f := ack1) t12 ⟨wfI _ (by decide), wfI _ (by decide), wfI _ (by decide), wfI _ (by decide), wfI _ (by decide), wfI _ (by decide), trivial⟩ (Sl.nil0 _ _) rfl
    refine (nSend n16 (fun b hb => by rintro rfl; have := lt1 b hb; omega) fs).mono ?_
    rintro e w7 ⟨F7, n7, u7, rfl⟩
    have f7 := up_fr f6 u7 ge1
    have ge7 := up_ge u7 ge1 f6.size
    have y7 := (y5.below b6).past u7 d1 n16.loud
    have n57 := (n5.below b6).past u7 d5 n16.loud
    have lo5 := u5.fr.size
    have d7 : g5 ∉ F7 := apart_up (G := [g5]) u7 (by simp; have := b6.size; omega) (by intro b hb; simp at hb; subst hb; exact d1) g5 (by simp)
    have d57 : ∀ b ∈ F2, b ∉ F7 := apart_up u7 (n5.below b6).lt d5
    have ap12 : g12 ∉ F7 := apart_up (G := [g12]) u7 (by simp; exact lt12) (by intro b hb hm; simp at hb; subst hb; have := lt1 b hm; omega) g12 (by simp)
    refine ⟨_, rfl, ⟨f7, mild_up u7 fun b hb hm => ?_⟩, ?_⟩
    · simp at hb
      rcases hb with rfl | rfl
      · have := lt1 b hm; omega
      · exact d1 hm
    refine (nDrop n7 0).mono ?_
    rintro e w8 ⟨F8, n8, u8, rfl⟩
    have f8 := up_fr f7 u8 ge7
    have y8 := y7.past u8 d7 n7.loud
    have n58 := n57.past u8 d57 n7.loud
    refine ⟨_, rfl, ⟨f8, mild_up u8 fun b hb hm => ?_⟩, ?_⟩
    · simp at hb
      rcases hb with rfl | rfl
      · exact ap12 hm
      · exact d7 hm
    obtain ⟨p, o, A', n', c', rfl, hok, hc, hf⟩ := op_get (hx f8) k (by omega)
    refine ⟨by omega, hlt, p, o, rfl, _, _, _, A', n', c', hc, fun _ => nplays_does (G := [g12]) f8 (by omega) n58 y8 ge2' d2 (fun b hb hm => ?_) hf (by omega) (by omega) (by omega) _ _ _⟩
    simp at hb; subst hb
    rcases List.mem_cons.1 hm with rfl | hm
    · omega
    · have := lt5 b hm; omega
  · obtain ⟨p, o, A', n', c', rfl, hok, hc, hf⟩ := op_get (hx f4) k (by omega)
    exact ⟨by omega, hlt, p, o, rfl, _, _, _, A', n', c', hc, fun _ => nplays_does (G := []) f4 (by omega) hn hy ge hd (fun b hb => by cases hb) hf (by omega) (by omega) (by omega) _ _ _⟩
end Go.Proofs.Ytdjjfpcfclheiaa
