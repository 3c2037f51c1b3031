/- The law TallyPlays. -/
import Derived.Test.YtdjjfpcfclheiaaTalG
set_option linter.unusedSimpArgs false
set_option linter.unusedVariables false
namespace Go.Proofs.Ytdjjfpcfclheiaa
open Go Go.RowKit Go.Proofs Go.Trc Go.Sx

def TPI (w : World) (n gy ay : Nat) (v : Value) (b : Bool) (i : Int) (w' : World) : Prop :=
  ∃ (k g : Nat) (xs : List Int) (F : List Nat), v = .pointer (some ⟨g, 0, none⟩) ∧ i = k ∧ k ≤ n ∧ Tal w' g xs F ∧ RTal w' gy ay xs ∧ (∀ b ∈ F, w.heap.size ≤ b) ∧ (∀ b ∈ F, b ∉ [gy, ay])
def TPM (n : Nat) (v : Value) (b : Bool) (i : Int) (w' : World) : Nat := (n - i : Int).toNat
theorem keep_up {F F1 T : List Nat} {N : Nat} {w1 w2 : World} (u : Up F w1 F1 w2) (hN : N ≤ w1.heap.size) (h : ∀ b ∈ F, b ∈ T ∨ N ≤ b) : Keep N T w1 w2 := fun k hk hn => u.fr.block k (Nat.lt_of_lt_of_le hk hN) fun hm => by
  rcases h k hm with h1 | h1
  · exact hn h1
  · omega
set_option maxHeartbeats 4000000 in
theorem plays_step {w w4 : World} {A1 : Option Addr} {n2 n3 k g gy ay : Nat} {ps : List PR} {xs : List Int} {F : List Nat} {b9 : Bool} (f4 : Fr (fun _ => False) w w4) (h : Sl w (fun b => b < w.heap.size) (.slice A1 n2 n3) ps) (hk' : k < ps.length)
    (ht : Tal w4 g xs F) (hr : RTal w4 gy ay xs) (ge : ∀ b ∈ F, w.heap.size ≤ b) (geR : ∀ b ∈ [gy, ay], w.heap.size ≤ b) (dis : ∀ b ∈ F, b ∉ [gy, ay]) :
∃ T11 : List Nat, (∀ b ∈ T11, b < w4.heap.size ∧ b ∉ []) ∧
       ((0 : Int) ≤ (k : Int) ∧ (k : Int) < (n2 : Int) ∧ ∃ p12 : Nat, ∃ o13 : Nat, A1 = some ⟨p12, o13, none⟩ ∧
       (∀ w5 : World, Go.Sx.Fr (fun _ => False) w w5 → Below w4.heap.size w4 w5 → ∃ i14 : Int, Go.Sx.CellsAt w5 p12 (o13 + ((k : Int)).toNat * 2 + 0) [.int .i64 i14] ∧ (p12 < w4.heap.size ∧ p12 ∉ (T11 ++ [])) ∧ 
       ((0 : Int) ≤ (k : Int) ∧ (k : Int) < (n2 : Int) ∧ ∃ p15 : Nat, ∃ o16 : Nat, A1 = some ⟨p15, o16, none⟩ ∧
       (∃ i17 : Int, Go.Sx.CellsAt w5 p15 (o16 + ((k : Int)).toNat * 2 + 1) [.int .i64 i17] ∧ (p15 < w4.heap.size ∧ p15 ∉ (T11 ++ [])) ∧ 
       ((0 : Int) ≤ (k : Int) ∧ (k : Int) < (n2 : Int) ∧ ∃ p18 : Nat, ∃ o19 : Nat, A1 = some ⟨p18, o19, none⟩ ∧
       (∃ i20 : Int, Go.Sx.CellsAt w5 p18 (o19 + ((k : Int)).toNat * 2 + 0) [.int .i64 i20] ∧ (p18 < w4.heap.size ∧ p18 ∉ (T11 ++ [])) ∧ 
       ((0 : Int) ≤ (k : Int) ∧ (k : Int) < (n2 : Int) ∧ ∃ p21 : Nat, ∃ o22 : Nat, A1 = some ⟨p21, o22, none⟩ ∧
       (∃ i23 : Int, Go.Sx.CellsAt w5 p21 (o22 + ((k : Int)).toNat * 2 + 1) [.int .i64 i23] ∧ (p21 < w4.heap.size ∧ p21 ∉ (T11 ++ [])) ∧ 
       (
       Calls Try.prog 14 #[((Value.pointer (some ⟨g, 0, none⟩))), (.int .i64 i14), (.int .i64 i17)] w5 fun r w6 => ∃ i24 : Int, r = .returned (.int .i64 i24) ∧ (Go.Sx.Fr (fun _ => False) w w6 ∧ Go.Sx.Mild [] w5 w6) ∧ Go.Sx.Keep w4.heap.size (T11 ++ []) w5 w6 ∧ 
       (
       Calls Try.prog 21 #[((Value.pointer (some ⟨gy, 0, none⟩))), (.int .i64 i20), (.int .i64 i23)] w6 fun r w7 => ∃ i25 : Int, r = .returned (.int .i64 i25) ∧ (Go.Sx.Fr (fun _ => False) w w7 ∧ Go.Sx.Mild [] w6 w7) ∧ Go.Sx.Keep w4.heap.size (T11 ++ []) w6 w7 ∧ 
       ((¬ i24 = i25 →
       ((Ret (Value.bool true) w) (.returned (.bool false)) w7)) ∧
       (i24 = i25 →
       ((0 : Int) ≤ (k : Int) ∧ (k : Int) < (n2 : Int) ∧ ∃ p26 : Nat, ∃ o27 : Nat, A1 = some ⟨p26, o27, none⟩ ∧
        (∃ i28 : Int, Go.Sx.CellsAt w7 p26 (o27 + ((k : Int)).toNat * 2 + 0) [.int .i64 i28] ∧ (p26 < w4.heap.size ∧ p26 ∉ (T11 ++ [])) ∧ 
        ((0 : Int) ≤ (k : Int) ∧ (k : Int) < (n2 : Int) ∧ ∃ p29 : Nat, ∃ o30 : Nat, A1 = some ⟨p29, o30, none⟩ ∧
        (∃ i31 : Int, Go.Sx.CellsAt w7 p29 (o30 + ((k : Int)).toNat * 2 + 0) [.int .i64 i31] ∧ (p29 < w4.heap.size ∧ p29 ∉ (T11 ++ [])) ∧ 
        (
        Calls Try.prog 18 #[((Value.pointer (some ⟨g, 0, none⟩))), (.int .i64 i28)] w7 fun r w8 => ∃ i32 : Int, r = .returned (.int .i64 i32) ∧ (Go.Sx.Fr (fun _ => False) w w8 ∧ Go.Sx.Mild [] w7 w8) ∧ Go.Sx.Keep w4.heap.size (T11 ++ []) w7 w8 ∧ 
        (
        Calls Try.prog 22 #[((Value.pointer (some ⟨gy, 0, none⟩))), (.int .i64 i31)] w8 fun r w9 => ∃ i33 : Int, r = .returned (.int .i64 i33) ∧ (Go.Sx.Fr (fun _ => False) w w9 ∧ Go.Sx.Mild [] w8 w9) ∧ 
        ((¬ i32 = i33 →
        ((Ret (Value.bool true) w) (.returned (.bool false)) w9)) ∧
        (i32 = i33 →
        (TPI w n2 gy ay ((Value.pointer (some ⟨g, 0, none⟩))) b9 (IntKind.i64.wrap ((k : Int) + (1 : Int))) w9 ∧ TPM n2 ((Value.pointer (some ⟨g, 0, none⟩))) b9 (IntKind.i64.wrap ((k : Int) + (1 : Int))) w9 < TPM n2 (Value.pointer (some ⟨g, 0, none⟩)) b9 (k : Int) w4)))))))))))))))))))))
  := by
  have hn := h.len
  have hle := h.le
  have hx : ∀ {w'}, Fr (fun _ => False) w w' → Sl w' (fun b => b < w.heap.size) (.slice A1 n2 n3) ps := fun f => h.below (fr_below f)
  obtain ⟨p, o, rfl, hp, _, hwf, _⟩ := Sl.cells (hx f4) k hk'
  have hpl : p < w4.heap.size := Nat.lt_of_lt_of_le hp f4.size
  have hlt : (k : Int) < (n2 : Int) := by omega
  have hT : p ∉ ((F ++ [gy, ay]) ++ []) := by
    intro hm
    rw [List.append_nil] at hm
    rcases List.mem_append.1 hm with hm | hm
    · have := ge p hm; omega
    · have := geR p hm; omega
  have at1 : ∀ {w'}, Fr (fun _ => False) w w' → CellsAt w' p (o + k * 2 + 0) [.int .i64 ps[k].1] := fun f => cells_fst ((hx f).at_k k hk')
  have at2 : ∀ {w'}, Fr (fun _ => False) w w' → CellsAt w' p (o + k * 2 + 1) [.int .i64 ps[k].2] := fun f => cells_snd ((hx f).at_k k hk')
  refine ⟨F ++ [gy, ay], fun b hb => ⟨?_, by simp⟩, by omega, hlt, p, o, rfl, fun w5 f5 b5 => ⟨_, at1 f5, ⟨hpl, hT⟩, by omega, hlt, p, o, rfl, _, at2 f5, ⟨hpl, hT⟩, by omega, hlt, p, o, rfl, _, at1 f5, ⟨hpl, hT⟩, by omega, hlt, p, o, rfl, _, at2 f5, ⟨hpl, hT⟩, ?_⟩⟩
  · rcases List.mem_append.1 hb with hb | hb
    · exact ht.lt b hb
    · exact hr.lt b hb
  have inT : ∀ b ∈ F, b ∈ ((F ++ [gy, ay]) ++ []) ∨ w4.heap.size ≤ b := fun b hb => .inl (by simp [hb])
  have inR : ∀ b ∈ [gy, ay], b ∈ ((F ++ [gy, ay]) ++ []) ∨ w4.heap.size ≤ b := fun b hb => .inl (by rw [List.append_nil]; exact List.mem_append.2 (.inr hb))
  refine (add_c (ht.below b5) _ _ (wf_snd hwf)).mono ?_
  rintro e w6 ⟨F6, t6, u6, rfl⟩
  have f6 := up_fr f5 u6 ge
  have ge6 := up_ge u6 ge f5.size
  have r6 := (hr.below b5).past u6 (fun b hb hm => dis b hm hb)
  have d6 : ∀ b ∈ [gy, ay], b ∉ F6 := apart_up u6 (hr.below b5).lt (fun b hb hm => dis b hm hb)
  refine ⟨_, rfl, ⟨f6, mild_nil u6.fr.size⟩, keep_up u6 b5.size inT, ?_⟩
  have n6 : w4.heap.size ≤ w6.heap.size := Nat.le_trans b5.size u6.fr.size
  refine (radd_c r6 _ _ (wf_snd hwf)).mono ?_
  rintro e w7 ⟨r7, u7, rfl⟩
  have f7 := up_fr f6 u7 geR
  have t7 := t6.past u7 (fun b hb hm => d6 b hm hb)
  refine ⟨_, rfl, ⟨f7, mild_nil u7.fr.size⟩, keep_up u7 n6 inR, fun hne => absurd rfl hne, fun _ => ⟨by omega, hlt, p, o, rfl, _, at1 f7, ⟨hpl, hT⟩, by omega, hlt, p, o, rfl, _, at1 f7, ⟨hpl, hT⟩, ?_⟩⟩
  have in6 : ∀ b ∈ F6, b ∈ ((F ++ [gy, ay]) ++ []) ∨ w4.heap.size ≤ b := fun b hb => by
    rcases u6.new b hb with h1 | h1
    · exact inT b h1
    · exact .inr (Nat.le_trans b5.size h1)
  refine (get_c t7 _).mono ?_
  rintro e w8 ⟨F8, t8, u8, rfl, -, -⟩
  have f8 := up_fr f7 u8 ge6
  have r8 := r7.past u8 d6
  refine ⟨_, rfl, ⟨f8, mild_nil u8.fr.size⟩, keep_up u8 (Nat.le_trans n6 u7.fr.size) in6, ?_⟩
  refine (rget_c r8 _).mono ?_
  rintro e w9 ⟨rfl, b9⟩
  have f9 := f8.step b9
  refine ⟨_, rfl, ok_ret b9 f8, fun hne => absurd rfl hne, fun _ => ⟨⟨k + 1, g, _, F8, rfl, by rw [wrap_in (by omega)]; rfl, by omega, t8.below b9, r8.below b9, up_ge u8 ge6 f7.size, fun b hb hm => apart_up u8 r7.lt d6 b hm hb⟩, ?_⟩⟩
  rw [wrap_in (by omega)]
  show (n2 - ((k : Int) + 1) : Int).toNat < (n2 - (k : Int) : Int).toNat
  omega
set_option maxHeartbeats 4000000 in
theorem plays_end {w w4 : World} {g gy ay : Nat} {xs : List Int} {F : List Nat} (f4 : Fr (fun _ => False) w w4)
    (ht : Tal w4 g xs F) (hr : RTal w4 gy ay xs) (ge : ∀ b ∈ F, w.heap.size ≤ b) (geR : ∀ b ∈ [gy, ay], w.heap.size ≤ b) (dis : ∀ b ∈ F, b ∉ [gy, ay]) :
∃ T11 : List Nat, (∀ b ∈ T11, b < w4.heap.size ∧ b ∉ []) ∧
      (∃ p12 : Nat, ∃ o13 : Nat, (Value.pointer (some ⟨gy, 0, none⟩)) = .pointer (some ⟨p12, o13, none⟩) ∧
      (∀ w5 : World, Go.Sx.Fr (fun _ => False) w w5 → Below w4.heap.size w4 w5 → ∃ A14 : Option Addr, ∃ n15 : Nat, ∃ n16 : Nat, Go.Sx.CellsAt w5 p12 (o13 + ((0 : Int)).toNat * 0 + 0) [.slice A14 n15 n16] ∧ (p12 < w4.heap.size ∧ p12 ∉ (T11 ++ [])) ∧ 
      (
      Calls Try.prog 16 #[((Value.pointer (some ⟨g, 0, none⟩)))] w5 fun r w6 => ∃ A17 : Option Addr, ∃ n18 : Nat, ∃ n19 : Nat, r = .returned (.slice A17 n18 n19) ∧ (Go.Sx.Fr (fun _ => False) w w6 ∧ Go.Sx.Mild [] w5 w6) ∧ Go.Sx.Keep w4.heap.size (T11 ++ []) w5 w6 ∧ 
      (
      Calls Try.prog 15 #[(.slice A17 n18 n19), (.slice A14 n15 n16)] w6 fun r w7 => ∃ b20 : Bool, r = .returned (.bool b20) ∧ (Go.Sx.Fr (fun _ => False) w w7 ∧ Go.Sx.Mild [] w6 w7) ∧ 
      ((b20 = true →
      (
       Calls Try.prog 17 #[((Value.pointer (some ⟨g, 0, none⟩)))] w7 fun r w8 => ∃ i21 : Int, r = .returned (.int .i64 i21) ∧ (Go.Sx.Fr (fun _ => False) w w8 ∧ Go.Sx.Mild [] w7 w8) ∧ 
       (
       Calls Try.prog 23 #[((Value.pointer (some ⟨gy, 0, none⟩)))] w8 fun r w9 => ∃ i22 : Int, r = .returned (.int .i64 i22) ∧ (Go.Sx.Fr (fun _ => False) w w9 ∧ Go.Sx.Mild [] w8 w9) ∧ 
       ((Ret (Value.bool true) w) (.returned (.bool (i21 == i22))) w9)))) ∧
      (b20 = false →
      ((Ret (Value.bool true) w) (.returned (.bool false)) w7)))))))
  := by
  refine ⟨F, fun b hb => ⟨ht.lt b hb, by simp⟩, gy, 0, rfl, fun w5 f5 b5 => ⟨_, _, _, (hr.below b5).row, ⟨hr.lt gy (by simp), by rw [List.append_nil]; exact fun hm => dis gy hm (by simp)⟩, ?_⟩⟩
  refine (all_c (ht.below b5)).mono ?_
  rintro e w6 ⟨F6, A, n, c, t6, u6, o6, rfl, -, -⟩
  have f6 := up_fr f5 u6 ge
  have r6 := (hr.below b5).past u6 (fun b hb hm => dis b hm hb)
  have d6 : ∀ b ∈ [gy, ay], b ∉ F6 := apart_up u6 (hr.below b5).lt (fun b hb hm => dis b hm hb)
  refine ⟨A, n, c, rfl, ⟨f6, mild_nil u6.fr.size⟩, keep_up u6 b5.size (fun b hb => .inl (by simpa using hb)), ?_⟩
  refine (ints_c o6.sl r6.sl).mono ?_
  rintro e w7 ⟨rfl, b7⟩
  have f7 := f6.step b7
  refine ⟨_, rfl, ok_ret b7 f6, fun _ => ?_, fun h => (by simp at h)⟩
  refine (tsum_c (t6.below b7)).mono ?_
  rintro e w8 ⟨F8, t8, u8, rfl, -⟩
  have f8 := up_fr f7 u8 (up_ge u6 ge f5.size)
  refine ⟨_, rfl, ⟨f8, mild_nil u8.fr.size⟩, ?_⟩
  refine (rsum_c ((r6.below b7).past u8 d6)).mono ?_
  rintro e w9 ⟨rfl, b9⟩
  exact ⟨_, rfl, ok_ret b9 f8, ret_leaf (f8.step b9) (by simp)⟩
set_option maxHeartbeats 4000000 in
theorem tallyPlays_wk {w : World} (kd : Int) {A : Option Addr} {n c : Nat} {ps : List PR} (h : Sl w (fun b => b < w.heap.size) (.slice A n c) ps) :
    Calls Try.prog 5 #[.int .i64 kd, .slice A n c] w (Ret (.bool true) w) := by
  have hn := h.len
  refine tallyPlays_sx _ (fun _ => False) w kd A n c ?_
  refine (tshown_c w).mono ?_
  rintro e w1 ⟨rfl, b1⟩
  have f1 := (Fr.refl (fun _ => False) w).step b1
  refine ⟨_, rfl, ok_ret b1 (Fr.refl _ _), ?_⟩
  refine (new_c w1 kd).mono ?_
  rintro e w2 ⟨g, hg, h2, b2, rfl⟩
  have f2 := f1.step b2
  refine ⟨_, rfl, ok_ret b2 f1, ?_⟩
  refine (rnew_c w2 kd).mono ?_
  rintro e w3 ⟨gy, ay, hgy, hay, h3, b3, rfl⟩
  have f3 := f2.step b3
  have lg := h2.lt g (by simp)
  have geR : ∀ b ∈ [gy, ay], w.heap.size ≤ b := by
    have := f2.size
    intro b hb; simp at hb; rcases hb with rfl | rfl <;> omega
  refine ⟨_, rfl, ok_ret b3 f2, (fun h => by cases h), fun _ => ⟨_, eql_tal w3 _, (fun h => by cases h), fun _ => ?_⟩⟩
  refine ⟨TPI w n gy ay, TPM n, ⟨0, g, _, [g], rfl, rfl, Nat.zero_le _, h2.below b3, h3, ?_, ?_⟩, ?_⟩
  · intro b hb; simp at hb; subst hb; exact Nat.le_trans f1.size hg
  · intro b hb hm; simp at hb hm; omega
  rintro v8 b9 i10 w4 f4 ⟨k, g, xs, F, rfl, rfl, hk, ht, hr, ge, dis⟩
  refine ⟨fun hlt => ⟨fun h100 => ⟨by omega, fun h8 => ?_, fun h8 => plays_step f4 h (by omega) ht hr ge geR dis⟩, fun h100 => plays_end f4 ht hr ge geR dis⟩, fun hge => plays_end f4 ht hr ge geR dis⟩
  refine (clone_c ht).mono ?_
  rintro e w5 ⟨g', F1, F2, hg', t5, t5', u5, ge5', d5, rfl⟩
  have f5 := up_fr f4 u5 ge
  have ge1 := up_ge u5 ge f4.size
  have r5 := hr.past u5 (fun b hb hm => dis b hm hb)
  have d1 : ∀ b ∈ [gy, ay], b ∉ F1 := apart_up u5 hr.lt (fun b hb hm => dis b hm hb)
  have d2 : ∀ b ∈ F2, b ∉ [gy, ay] := fun b hb hm => by have := hr.lt b hm; have := ge5' b hb; omega
  refine ⟨_, rfl, ⟨f5, mild_nil u5.fr.size⟩, _, eql_tal w5 _, (fun h => by cases h), fun _ => ?_⟩
  refine (add_c t5 0 5 (by omega)).mono ?_
  rintro e w6 ⟨F6, t6, u6, rfl⟩
  have f6 := up_fr f5 u6 ge1
  refine ⟨_, rfl, ⟨f6, mild_nil u6.fr.size⟩, ?_⟩
  exact plays_step f6 h (by omega) (t5'.past u6 d5) (r5.past u6 d1) (fun b hb => Nat.le_trans f4.size (ge5' b hb)) geR d2
theorem tallyPlays_walk (w : World) (kd : Int) (hk : -9223372036854775808 ≤ kd ∧ kd ≤ 9223372036854775807) (A : Option Addr) (n c : Nat) (xs : List PR) (h : Sl w (fun b => b < w.heap.size) (.slice A n c) xs) :
    Calls Try.prog 5 #[.int .i64 kd, .slice A n c] w fun e w' => e = .returned (.bool true) ∧ Below w.heap.size w w' := tallyPlays_wk kd h
end Go.Proofs.Ytdjjfpcfclheiaa
