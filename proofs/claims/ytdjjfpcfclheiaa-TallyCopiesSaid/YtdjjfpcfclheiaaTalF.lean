/- The law TallySum. -/
import Derived.Test.YtdjjfpcfclheiaaTalE
set_option linter.unusedSimpArgs false
set_option linter.unusedVariables false
namespace Go.Proofs.Ytdjjfpcfclheiaa
open Go Go.RowKit Go.Proofs Go.Trc Go.Sx

set_option maxHeartbeats 2000000 in
theorem sum_end {w w3 : World} {g : Nat} {xs : List Int} {F : List Nat} {b7 : Bool} (f3 : Fr (fun _ => False) w w3) (h : Tal w3 g xs F) (ge : ∀ b ∈ F, w.heap.size ≤ b) :
Calls Try.prog 16 #[((.pointer (some ⟨g, 0, none⟩)))] w3 fun r w4 => ∃ A9 : Option Addr, ∃ n10 : Nat, ∃ n11 : Nat, r = .returned (.slice A9 n10 n11) ∧ (Go.Sx.Fr (fun _ => False) w w4 ∧ Go.Sx.Mild [] w3 w4) ∧ 
      (∃ (I1 : Int → Bool → Int → World → Prop) (M1 : Int → Bool → Int → World → Nat), (I1 (0 : Int) b7 (0 : Int) w4) ∧
      ∀ i12 : Int, ∀ b13 : Bool, ∀ i14 : Int, ∀ w5 : World, Go.Sx.Fr (fun _ => False) w w5 → I1 i12 b13 i14 w5 → 
       ((i14 < (n10 : Int) →
       ((0 : Int) ≤ i14 ∧ i14 < (n10 : Int) ∧ ∃ p15 : Nat, ∃ o16 : Nat, A9 = some ⟨p15, o16, none⟩ ∧
        (∃ i17 : Int, Go.Sx.CellsAt w5 p15 (o16 + (i14).toNat * 1 + 0) [.int .i64 i17] ∧ 
        (
        ((0 : Int) ≤ i14 ∧ i14 < (n10 : Int) ∧ ∃ p19 : Nat, ∃ o20 : Nat, A9 = some ⟨p19, o20, none⟩ ∧
        (∀ w6 : World, Go.Sx.Fr (fun _ => False) w w6 → Below w5.heap.size w5 w6 → ∃ i21 : Int, Go.Sx.CellsAt w6 p19 (o20 + (i14).toNat * 1 + 0) [.int .i64 i21] ∧ (p19 < w5.heap.size ∧ p19 ∉ []) ∧ 
        (
        Calls Try.prog 18 #[((.pointer (some ⟨g, 0, none⟩))), (.int .i64 i14)] w6 fun r w7 => ∃ i22 : Int, r = .returned (.int .i64 i22) ∧ (Go.Sx.Fr (fun _ => False) w w7 ∧ Go.Sx.Mild [] w6 w7) ∧ Go.Sx.Keep w5.heap.size [] w6 w7 ∧ 
        ((¬ i21 = i22 →
        ((Ret (.bool true) w) (.returned (.bool false)) w7)) ∧
        (i21 = i22 →
        ((0 : Int) ≤ i14 ∧ i14 < (n10 : Int) ∧ ∃ p23 : Nat, ∃ o24 : Nat, A9 = some ⟨p23, o24, none⟩ ∧
         (∃ i25 : Int, Go.Sx.CellsAt w7 p23 (o24 + (i14).toNat * 1 + 0) [.int .i64 i25] ∧ (p23 < w5.heap.size ∧ p23 ∉ []) ∧ 
         ((i25 < (0 : Int) →
         ((Ret (.bool true) w) (.returned (.bool false)) w7)) ∧
         ((0 : Int) ≤ i25 →
         ((0 : Int) ≤ i14 ∧ i14 < (n10 : Int) ∧ ∃ p26 : Nat, ∃ o27 : Nat, A9 = some ⟨p26, o27, none⟩ ∧
          (∃ i28 : Int, Go.Sx.CellsAt w7 p26 (o27 + (i14).toNat * 1 + 0) [.int .i64 i28] ∧ (p26 < w5.heap.size ∧ p26 ∉ []) ∧ 
          (((1099511627776 : Int) < i28 →
          ((Ret (.bool true) w) (.returned (.bool false)) w7)) ∧
          (i28 ≤ (1099511627776 : Int) →
          (I1 (IntKind.i64.wrap (i12 + i17)) b13 (IntKind.i64.wrap (i14 + (1 : Int))) w7 ∧ M1 (IntKind.i64.wrap (i12 + i17)) b13 (IntKind.i64.wrap (i14 + (1 : Int))) w7 < M1 i12 b13 i14 w5)))))))))))))))))) ∧
       ((n10 : Int) ≤ i14 →
       (
        Calls Try.prog 17 #[((.pointer (some ⟨g, 0, none⟩)))] w5 fun r w6 => ∃ i15 : Int, r = .returned (.int .i64 i15) ∧ (Go.Sx.Fr (fun _ => False) w w6 ∧ Go.Sx.Mild [] w5 w6) ∧ 
        ((i12 = i15 →
        ((Ret (.bool true) w) (.returned (.bool (decide ((n10 : Int) ≤ (64 : Int))))) w6)) ∧
        (¬ i12 = i15 →
        ((Ret (.bool true) w) (.returned (.bool false)) w6)))))))
  := by
  have hlen := h.len
  refine (all_c h).mono ?_
  rintro e w4 ⟨F4, A, n, c, h4, u4, o4, rfl, -, sh4⟩
  have f4 := up_fr f3 u4 ge
  have ge4 := up_ge u4 ge f3.size
  have hn := o4.sl.len
  refine ⟨A, n, c, rfl, ⟨f4, mild_nil u4.fr.size⟩, ?_⟩
  refine ⟨fun s _ i w5 => ∃ (k : Nat) (F' : List Nat), i = k ∧ k ≤ xs.length ∧ s = (xs.take k).sum ∧ Tal w5 g xs F' ∧ (∀ b ∈ F', w.heap.size ≤ b) ∧ OwnF w5 w3.heap.size 3 (.slice A n c) xs ∧ (0 < xs.length → ∃ a, F' = [g, a]),
    fun _ _ i _ => (n - i : Int).toNat, ⟨0, F4, rfl, Nat.zero_le _, rfl, h4, ge4, o4, sh4⟩, ?_⟩
  rintro _ _ _ w5 f5 ⟨k, F5, rfl, hk, rfl, h5, ge5, o5, sh5⟩
  refine ⟨fun hlt => ?_, fun hge => ?_⟩
  · have hk' : k < xs.length := by omega
    obtain ⟨b, o, rfl, _, hb, _, hc⟩ := Sl.cells o5.sl k hk'
    have rg := h.rng _ (List.getElem_mem hk')
    unfold big at rg
    have r1 := sum_take_rng h.rng h.len k
    refine ⟨by omega, hlt, b, o, rfl, _, hc, by omega, hlt, b, o, rfl, fun w6 f6 b6 => ⟨xs[k], (o5.below b6).sl.at_k k hk', ⟨hb, by simp⟩, ?_⟩⟩
    refine (get_c (h5.below b6) (k : Int)).mono ?_
    rintro e w7 ⟨F7, h7, u7, rfl, sh7, st7⟩
    rw [getV_at hk']
    have f7 := up_fr f6 u7 ge5
    have b7' := st7 (sh5 (by omega))
    have o7 := (o5.below b6).below b7'
    refine ⟨_, rfl, ⟨f7, mild_nil u7.fr.size⟩, keep_below b7' b6.size, fun hne => absurd rfl hne, fun _ => ⟨by omega, hlt, b, o, rfl, xs[k], o7.sl.at_k k hk', ⟨hb, by simp⟩, fun hlt0 => by omega, fun _ => ⟨by omega, hlt, b, o, rfl, xs[k], o7.sl.at_k k hk', ⟨hb, by simp⟩, fun hgt => by omega, fun _ => ?_⟩⟩⟩
    exact ⟨⟨k + 1, F7, by rw [wrap_in (by omega)]; rfl, hk', by rw [wrap_in (by omega), sum_take xs k hk'], h7, up_ge u7 ge5 f6.size, o7, fun _ => sh7⟩, by rw [wrap_in (x := (k : Int) + 1) (by omega)]; dsimp only; omega⟩
  · rw [List.take_of_length_le (by omega)]
    refine (tsum_c h5).mono ?_
    rintro e w6 ⟨F6, h6, u6, rfl, -⟩
    have f6 := up_fr f5 u6 ge5
    exact ⟨_, rfl, ⟨f6, mild_nil u6.fr.size⟩, fun _ => ret_leaf f6 (by rw [decide_eq_true (by omega)]), fun h => absurd rfl h⟩
theorem get_add {xs : List Int} {i m : Int} (h : addE xs i m = 0) : getV (addV xs i m) i = getV xs i + m := by
  have hi : 0 ≤ i ∧ i < (xs.length : Int) := by
    apply Classical.byContradiction
    intro hi
    unfold addE at h
    rw [if_pos (.inl hi)] at h
    cases h
  obtain ⟨k, rfl⟩ : ∃ k : Nat, i = k := ⟨i.toNat, by omega⟩
  have hk : k < xs.length := by omega
  have hk2 : k < (addV xs k m).length := by rw [addV_len]; exact hk
  rw [getV_at hk2, getV_at hk]
  unfold addV
  simp only [h, if_true, Int.toNat_natCast, getV_at hk]
  simp
theorem addV_no {xs : List Int} {i m : Int} (h : ¬ addE xs i m = 0) : addV xs i m = xs := by unfold addV; rw [if_neg h]

set_option maxHeartbeats 4000000 in
theorem tallySum_wk {w : World} (kd : Int) {A : Option Addr} {n c : Nat} {ps : List PR} (h : Sl w (fun b => b < w.heap.size) (.slice A n c) ps) :
    Calls Try.prog 4 #[.int .i64 kd, .slice A n c] w (Ret (.bool true) w) := by
  have hn := h.len
  have hle := h.le
  refine tallySum_sx _ (fun _ => False) w kd A n c ?_
  refine (tshown_c w).mono ?_
  rintro e w1 ⟨rfl, b1⟩
  have f1 := (Fr.refl (fun _ => False) w).step b1
  refine ⟨_, rfl, ok_ret b1 (Fr.refl _ _), ?_⟩
  refine (new_c w1 kd).mono ?_
  rintro e w2 ⟨g, hg, h2, b2, rfl⟩
  have f2 := f1.step b2
  refine ⟨_, rfl, ok_ret b2 f1, (fun h => by cases h), fun _ => ⟨_, eql_tal w2 _, (fun h => by cases h), fun _ => ?_⟩⟩
  refine ⟨fun _ i w3 => ∃ (k : Nat) (xs : List Int) (F : List Nat), i = k ∧ k ≤ n ∧ Tal w3 g xs F ∧ (∀ b ∈ F, w.heap.size ≤ b), fun _ i _ => (n - i : Int).toNat, ⟨0, _, [g], rfl, Nat.zero_le _, h2, by intro b hb; simp at hb; subst hb; exact Nat.le_trans f1.size hg⟩, ?_⟩
  rintro _ _ w3 f3 ⟨k, xs, F3, rfl, hk, h3, ge3⟩
  refine ⟨fun hlt => ⟨fun h60 => ?_, fun h60 => sum_end f3 h3 ge3⟩, fun hge => sum_end f3 h3 ge3⟩
  have hk' : k < ps.length := by omega
  have hx : ∀ {w'}, Fr (fun _ => False) w w' → Sl w' (fun b => b < w.heap.size) (.slice A n c) ps := fun f => h.below (fr_below f)
  obtain ⟨p, o, rfl, hp, _, hwf, hc⟩ := Sl.cells (hx f3) k hk'
  have hpl : ∀ {w'}, Fr (fun _ => False) w w' → p < w'.heap.size := fun f => Nat.lt_of_lt_of_le hp f.size
  have at1 : ∀ {w'}, Fr (fun _ => False) w w' → CellsAt w' p (o + k * 2 + 0) [.int .i64 ps[k].1] := fun f => cells_fst ((hx f).at_k k hk')
  have at2 : ∀ {w'}, Fr (fun _ => False) w w' → CellsAt w' p (o + k * 2 + 1) [.int .i64 ps[k].2] := fun f => cells_snd ((hx f).at_k k hk')
  have hlt' : (k : Int) < (n : Int) := hlt
  refine ⟨by omega, hlt, p, o, rfl, _, at1 f3, ?_⟩
  have r0 := getV_rng h3.rng ps[k].1
  have rs0 := sum_take_rng h3.rng h3.len xs.length
  rw [List.take_of_length_le (Nat.le_refl _)] at rs0
  refine (get_c h3 ps[k].1).mono ?_
  rintro e w4 ⟨F4, h4, u4, rfl, -, -⟩
  have f4 := up_fr f3 u4 ge3
  have ge4 := up_ge u4 ge3 f3.size
  refine ⟨_, rfl, ⟨f4, mild_nil u4.fr.size⟩, ?_⟩
  refine (tsum_c h4).mono ?_
  rintro e w5 ⟨F5, h5, u5, rfl, -⟩
  have f5 := up_fr f4 u5 ge4
  have ge5 := up_ge u5 ge4 f4.size
  refine ⟨_, rfl, ⟨f5, mild_nil u5.fr.size⟩, by omega, hlt, p, o, rfl, fun w6 f6 b6 => ⟨_, at1 f6, ⟨hpl f5, by simp⟩, by omega, hlt, p, o, rfl, _, at2 f6, ⟨hpl f5, by simp⟩, ?_⟩⟩
  refine (add_c (h5.below b6) _ _ (wf_snd hwf)).mono ?_
  rintro e w7 ⟨F7, h7, u7, rfl⟩
  have f7 := up_fr f6 u7 ge5
  have ge7 := up_ge u7 ge5 f6.size
  refine ⟨_, rfl, ⟨f7, mild_nil u7.fr.size⟩, by omega, hlt, p, o, rfl, _, at1 f7, ?_⟩
  refine (get_c h7 _).mono ?_
  rintro e w8 ⟨F8, h8, u8, rfl, sh8, -⟩
  have f8 := up_fr f7 u8 ge7
  have ge8 := up_ge u8 ge7 f7.size
  have r1 := getV_rng h7.rng ps[k].1
  have rs1 := sum_take_rng h7.rng h7.len (addV xs ps[k].1 ps[k].2).length
  rw [List.take_of_length_le (Nat.le_refl _)] at rs1
  have hsum := add_sum xs ps[k].1 ps[k].2
  refine ⟨_, rfl, ⟨f8, mild_nil u8.fr.size⟩, fun hne => ⟨fun hn0 => absurd (by rw [addV_no hne]) hn0, fun _ w9 f9 b9 => ?_⟩, fun h0 => ⟨by omega, hlt, p, o, rfl, fun w9 f9 b9 => ⟨_, at2 f9, ⟨hpl f8, by simp⟩, ?_⟩⟩⟩
  · refine (tsum_c (h8.below b9)).mono ?_
    rintro e w10 ⟨F10, h10, u10, rfl, st10⟩
    have f10 := up_fr f9 u10 ge8
    refine ⟨_, rfl, ⟨f10, mild_nil u10.fr.size⟩, keep_below (st10 sh8).2 b9.size, fun hn0 => absurd (by rw [addV_no hne]) hn0, fun _ => ⟨⟨k + 1, _, F10, by rw [wrap_in (by omega)]; rfl, by omega, h10, up_ge u10 ge8 f9.size⟩, by rw [wrap_in (by omega)]; dsimp only; omega⟩⟩
  · have hg := get_add h0
    rw [if_pos h0] at hsum
    unfold big at r0 r1
    rw [wrap_in (x := getV xs ps[k].1 + ps[k].2) (by omega)]
    refine ⟨fun hn0 => absurd hg hn0, fun _ => ⟨by omega, hlt, p, o, rfl, _, at2 f9, ⟨hpl f8, by simp⟩, ?_⟩⟩
    rw [wrap_in (x := xs.sum + ps[k].2) (by omega)]
    refine (tsum_c (h8.below b9)).mono ?_
    rintro e w10 ⟨F10, h10, u10, rfl, st10⟩
    have f10 := up_fr f9 u10 ge8
    refine ⟨_, rfl, ⟨f10, mild_nil u10.fr.size⟩, keep_below (st10 sh8).2 b9.size, fun hn0 => absurd hsum hn0, fun _ => ⟨⟨k + 1, _, F10, by rw [wrap_in (by omega)]; rfl, by omega, h10, up_ge u10 ge8 f9.size⟩, by rw [wrap_in (by omega)]; dsimp only; omega⟩⟩
theorem tallySum_walk (w : World) (kd : Int) (hk : -9223372036854775808 ≤ kd ∧ kd ≤ 9223372036854775807) (A : Option Addr) (n c : Nat) (xs : List PR) (h : Sl w (fun b => b < w.heap.size) (.slice A n c) xs) :
    Calls Try.prog 4 #[.int .i64 kd, .slice A n c] w fun e w' => e = .returned (.bool true) ∧ Below w.heap.size w w' := tallySum_wk kd h
end Go.Proofs.Ytdjjfpcfclheiaa
