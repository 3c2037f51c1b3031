/- The law TallyCopies. -/
import Derived.Test.YtdjjfpcfclheiaaTalH
import Derived.Test.YtdjjfpcfclheiaaTalM
set_option linter.unusedSimpArgs false
set_option linter.unusedVariables false
namespace Go.Proofs.Ytdjjfpcfclheiaa
open Go Go.RowKit Go.Proofs Go.Trc Go.Sx

theorem add_le (xs : List Int) (i m : Int) : xs.sum ≤ (addV xs i m).sum := by
  rw [add_sum]
  split
  · rename_i h
    unfold addE at h
    split at h
    · cases h
    · rename_i h1
      have : ¬ m < 0 := fun hm => h1 (.inr hm)
      omega
  · omega
def TCI (w : World) (n ga gb : Nat) (i : Int) (w' : World) : Prop :=
  ∃ (k : Nat) (xs : List Int) (Fa Fb : List Nat), i = k ∧ k ≤ n ∧ Tal w' ga xs Fa ∧ Tal w' gb xs Fb ∧ (∀ b ∈ Fa, w.heap.size ≤ b) ∧ (∀ b ∈ Fb, w.heap.size ≤ b) ∧ (∀ b ∈ Fa, b ∉ Fb)
def TCM (n : Nat) (i : Int) (w' : World) : Nat := (n - i : Int).toNat
set_option maxHeartbeats 4000000 in
theorem copies_step {w w4 : World} {A0 : Option Addr} {n1 n2 k ga gb : Nat} {ps : List PR} {xs : List Int} {Fa Fb : List Nat} (f4 : Fr (fun _ => False) w w4) (h : Sl w (fun b => b < w.heap.size) (.slice A0 n1 n2) ps) (hk' : k < ps.length)
    (ha : Tal w4 ga xs Fa) (hb : Tal w4 gb xs Fb) (gea : ∀ b ∈ Fa, w.heap.size ≤ b) (geb : ∀ b ∈ Fb, w.heap.size ≤ b) (dis : ∀ b ∈ Fa, b ∉ Fb) :
∃ T12 : List Nat, (∀ b ∈ T12, b < w4.heap.size ∧ b ∉ []) ∧
       ((0 : Int) ≤ (k : Int) ∧ (k : Int) < (n1 : Int) ∧ ∃ p13 : Nat, ∃ o14 : Nat, A0 = some ⟨p13, o14, none⟩ ∧
       (∀ w5 : World, Go.Sx.Fr (fun _ => False) w w5 → Below w4.heap.size w4 w5 → ∃ i15 : Int, Go.Sx.CellsAt w5 p13 (o14 + ((k : Int)).toNat * 2 + 0) [.int .i64 i15] ∧ (p13 < w4.heap.size ∧ p13 ∉ (T12 ++ [])) ∧ 
       ((0 : Int) ≤ (k : Int) ∧ (k : Int) < (n1 : Int) ∧ ∃ p16 : Nat, ∃ o17 : Nat, A0 = some ⟨p16, o17, none⟩ ∧
       (∃ i18 : Int, Go.Sx.CellsAt w5 p16 (o17 + ((k : Int)).toNat * 2 + 1) [.int .i64 i18] ∧ (p16 < w4.heap.size ∧ p16 ∉ (T12 ++ [])) ∧ 
       (
       Calls Try.prog 14 #[((Value.pointer (some ⟨ga, 0, none⟩))), (.int .i64 i15), (.int .i64 i18)] w5 fun r w6 => ∃ i19 : Int, r = .returned (.int .i64 i19) ∧ (Go.Sx.Fr (fun _ => False) w w6 ∧ Go.Sx.Mild [] w5 w6) ∧ 
       (∃ T20 : List Nat, (∀ b ∈ T20, b < w6.heap.size ∧ b ∉ []) ∧
       ((0 : Int) ≤ (k : Int) ∧ (k : Int) < (n1 : Int) ∧ ∃ p21 : Nat, ∃ o22 : Nat, A0 = some ⟨p21, o22, none⟩ ∧
       (∀ w7 : World, Go.Sx.Fr (fun _ => False) w w7 → Below w6.heap.size w6 w7 → ∃ i23 : Int, Go.Sx.CellsAt w7 p21 (o22 + ((k : Int)).toNat * 2 + 0) [.int .i64 i23] ∧ (p21 < w6.heap.size ∧ p21 ∉ (T20 ++ [])) ∧ 
       ((0 : Int) ≤ (k : Int) ∧ (k : Int) < (n1 : Int) ∧ ∃ p24 : Nat, ∃ o25 : Nat, A0 = some ⟨p24, o25, none⟩ ∧
       (∃ i26 : Int, Go.Sx.CellsAt w7 p24 (o25 + ((k : Int)).toNat * 2 + 1) [.int .i64 i26] ∧ (p24 < w6.heap.size ∧ p24 ∉ (T20 ++ [])) ∧ 
       (
       Calls Try.prog 14 #[((Value.pointer (some ⟨gb, 0, none⟩))), (.int .i64 i23), (.int .i64 i26)] w7 fun r w8 => ∃ i27 : Int, r = .returned (.int .i64 i27) ∧ (Go.Sx.Fr (fun _ => False) w w8 ∧ Go.Sx.Mild [] w7 w8) ∧ 
       (TCI w n1 ga gb (IntKind.i64.wrap ((k : Int) + (1 : Int))) w8 ∧ TCM n1 (IntKind.i64.wrap ((k : Int) + (1 : Int))) w8 < TCM n1 (k : Int) w4))))))))))))
  := by
  have hn := h.len
  have hle := h.le
  have hx : ∀ {w'}, Fr (fun _ => False) w w' → Sl w' (fun b => b < w.heap.size) (.slice A0 n1 n2) ps := fun f => h.below (fr_below f)
  obtain ⟨p, o, rfl, hp, _, hwf, _⟩ := Sl.cells (hx f4) k hk'
  have hpl : ∀ {w'}, Fr (fun _ => False) w w' → p < w'.heap.size := fun f => Nat.lt_of_lt_of_le hp f.size
  have hlt : (k : Int) < (n1 : Int) := by omega
  have hT : p ∉ (Fa ++ []) := by
    intro hm
    rw [List.append_nil] at hm
    have := gea p hm; omega
  have at1 : ∀ {w'}, Fr (fun _ => False) w w' → CellsAt w' p (o + k * 2 + 0) [.int .i64 ps[k].1] := fun f => cells_fst ((hx f).at_k k hk')
  have at2 : ∀ {w'}, Fr (fun _ => False) w w' → CellsAt w' p (o + k * 2 + 1) [.int .i64 ps[k].2] := fun f => cells_snd ((hx f).at_k k hk')
  refine ⟨Fa, fun b hb => ⟨ha.lt b hb, by simp⟩, by omega, hlt, p, o, rfl, fun w5 f5 b5 => ⟨_, at1 f5, ⟨hpl f4, hT⟩, by omega, hlt, p, o, rfl, _, at2 f5, ⟨hpl f4, hT⟩, ?_⟩⟩
  refine (add_c (ha.below b5) _ _ (wf_snd hwf)).mono ?_
  rintro e w6 ⟨F6, a6, u6, rfl⟩
  have f6 := up_fr f5 u6 gea
  have ge6 := up_ge u6 gea f5.size
  have b6 := (hb.below b5).past u6 (fun b hb hm => dis b hm hb)
  have d6 : ∀ b ∈ Fb, b ∉ F6 := apart_up u6 (hb.below b5).lt (fun b hb hm => dis b hm hb)
  refine ⟨_, rfl, ⟨f6, mild_nil u6.fr.size⟩, [], (fun b hb => by cases hb), by omega, hlt, p, o, rfl, fun w7 f7 b7 => ⟨_, at1 f7, ⟨hpl f6, by simp⟩, by omega, hlt, p, o, rfl, _, at2 f7, ⟨hpl f6, by simp⟩, ?_⟩⟩
  refine (add_c (b6.below b7) _ _ (wf_snd hwf)).mono ?_
  rintro e w8 ⟨F8, b8, u8, rfl⟩
  have f8 := up_fr f7 u8 geb
  refine ⟨_, rfl, ⟨f8, mild_nil u8.fr.size⟩, ⟨k + 1, _, F6, F8, by rw [wrap_in (by omega)]; rfl, by omega, (a6.below b7).past u8 (fun b hb hm => d6 b hm hb), b8, ge6, up_ge u8 geb f7.size, ?_⟩, ?_⟩
  · exact apart_up u8 (a6.below b7).lt (fun b hb hm => d6 b hm hb)
  rw [wrap_in (by omega)]
  show (n1 - ((k : Int) + 1) : Int).toNat < (n1 - (k : Int) : Int).toNat
  omega
set_option maxHeartbeats 4000000 in
theorem copies_end {w w6 : World} {ga gb gc : Nat} {xs zs : List Int} {Fa Fb Fc : List Nat} (f6 : Fr (fun _ => False) w w6)
    (ha : Tal w6 ga xs Fa) (hb : Tal w6 gb xs Fb) (hc : Tal w6 gc zs Fc) (gea : ∀ b ∈ Fa, w.heap.size ≤ b) (geb : ∀ b ∈ Fb, w.heap.size ≤ b) (gec : ∀ b ∈ Fc, w.heap.size ≤ b)
    (dab : ∀ b ∈ Fa, b ∉ Fb) (dca : ∀ b ∈ Fc, b ∉ Fa) (dcb : ∀ b ∈ Fc, b ∉ Fb) (hs : xs.sum ≤ zs.sum) :
Calls Try.prog 16 #[((Value.pointer (some ⟨ga, 0, none⟩)))] w6 fun r w7 => ∃ A15 : Option Addr, ∃ n16 : Nat, ∃ n17 : Nat, r = .returned (.slice A15 n16 n17) ∧ (Go.Sx.Fr (fun _ => False) w w7 ∧ Go.Sx.Mild [] w6 w7) ∧ 
           (
           Calls Try.prog 16 #[((Value.pointer (some ⟨gb, 0, none⟩)))] w7 fun r w8 => ∃ A18 : Option Addr, ∃ n19 : Nat, ∃ n20 : Nat, r = .returned (.slice A18 n19 n20) ∧ (Go.Sx.Fr (fun _ => False) w w8 ∧ Go.Sx.Mild [] w7 w8) ∧ 
           (
           Calls Try.prog 15 #[(.slice A15 n16 n17), (.slice A18 n19 n20)] w8 fun r w9 => ∃ b21 : Bool, r = .returned (.bool b21) ∧ (Go.Sx.Fr (fun _ => False) w w9 ∧ Go.Sx.Mild [] w8 w9) ∧ 
           ((b21 = true →
           (
            Calls Try.prog 17 #[((Value.pointer (some ⟨gc, 0, none⟩)))] w9 fun r w10 => ∃ i22 : Int, r = .returned (.int .i64 i22) ∧ (Go.Sx.Fr (fun _ => False) w w10 ∧ Go.Sx.Mild [] w9 w10) ∧ 
            (
            Calls Try.prog 17 #[((Value.pointer (some ⟨ga, 0, none⟩)))] w10 fun r w11 => ∃ i23 : Int, r = .returned (.int .i64 i23) ∧ (Go.Sx.Fr (fun _ => False) w w11 ∧ Go.Sx.Mild [] w10 w11) ∧ 
            ((Ret (Value.bool true) w) (.returned (.bool (decide (i23 ≤ i22)))) w11)))) ∧
           (b21 = false →
           ((Ret (Value.bool true) w) (.returned (.bool false)) w9)))))
  := by
  refine (all_c ha).mono ?_
  rintro e w7 ⟨F7, A, n, c, a7, u7, o7, rfl, -, -⟩
  have f7 := up_fr f6 u7 gea
  have b7 := hb.past u7 (fun b hb hm => dab b hm hb)
  have c7 := hc.past u7 dca
  have dba : ∀ b ∈ Fb, b ∉ F7 := apart_up u7 hb.lt (fun b hb hm => dab b hm hb)
  have dca7 : ∀ b ∈ Fc, b ∉ F7 := apart_up u7 hc.lt dca
  have ge7 := up_ge u7 gea f6.size
  refine ⟨A, n, c, rfl, ⟨f7, mild_nil u7.fr.size⟩, ?_⟩
  refine (all_c b7).mono ?_
  rintro e w8 ⟨F8, A', n', c', b8, u8, o8, rfl, -, -⟩
  have f8 := up_fr f7 u8 geb
  have c8 := c7.past u8 dcb
  have a8 := a7.past u8 (fun b hb hm => dba b hm hb)
  have o7' := OwnF.past o7 u8.fr (b7.own_ne o7 (by decide) (by decide))
  refine ⟨A', n', c', rfl, ⟨f8, mild_nil u8.fr.size⟩, ?_⟩
  refine (ints_c o7'.sl o8.sl).mono ?_
  rintro e w9 ⟨rfl, b9⟩
  have f9 := f8.step b9
  refine ⟨_, rfl, ok_ret b9 f8, fun _ => ?_, fun h => (by simp at h)⟩
  refine (tsum_c (c8.below b9)).mono ?_
  rintro e w10 ⟨F10, c10, u10, rfl, -⟩
  have f10 := up_fr f9 u10 gec
  refine ⟨_, rfl, ⟨f10, mild_nil u10.fr.size⟩, ?_⟩
  refine (tsum_c ((a8.below b9).past u10 (fun b hb hm => dca7 b hm hb))).mono ?_
  rintro e w11 ⟨F11, a11, u11, rfl, -⟩
  have f11 := up_fr f10 u11 ge7
  exact ⟨_, rfl, ⟨f11, mild_nil u11.fr.size⟩, ret_leaf f11 (by rw [decide_eq_true hs])⟩
def TCJ (w : World) (n ga gb gc : Nat) (xs : List Int) (Fa Fb : List Nat) (i : Int) (w' : World) : Prop :=
  ∃ (k : Nat) (zs : List Int) (Fc : List Nat), i = k ∧ k ≤ n ∧ Tal w' ga xs Fa ∧ Tal w' gb xs Fb ∧ Tal w' gc zs Fc ∧ (∀ b ∈ Fc, w.heap.size ≤ b) ∧ (∀ b ∈ Fc, b ∉ Fa) ∧ (∀ b ∈ Fc, b ∉ Fb) ∧ xs.sum ≤ zs.sum
set_option maxHeartbeats 4000000 in
theorem copies_rest {w w4 : World} {A3 : Option Addr} {n4 n5 ga gb : Nat} {qs : List PR} {xs : List Int} {Fa Fb : List Nat} (f4 : Fr (fun _ => False) w w4) (h : Sl w (fun b => b < w.heap.size) (.slice A3 n4 n5) qs)
    (ha : Tal w4 ga xs Fa) (hb : Tal w4 gb xs Fb) (gea : ∀ b ∈ Fa, w.heap.size ≤ b) (geb : ∀ b ∈ Fb, w.heap.size ≤ b) (dis : ∀ b ∈ Fa, b ∉ Fb) :
Calls Try.prog 20 #[((Value.pointer (some ⟨ga, 0, none⟩)))] w4 fun r w5 => ∃ v12 : Value, r = .returned (v12) ∧ (Go.Sx.Fr (fun _ => False) w w5 ∧ Go.Sx.Mild [] w4 w5) ∧ 
       (∃ b13 : Bool, (binOp .eql 24 (v12) (.pointer none)).run Try.prog w5 = .ok (.bool b13) w5 ∧
       ((b13 = true →
       ((Ret (Value.bool true) w) (.returned (.bool false)) w5)) ∧
       (b13 = false →
       (∃ (I1 : Int → World → Prop) (M1 : Int → World → Nat), (I1 (0 : Int) w5) ∧
        ∀ i14 : Int, ∀ w6 : World, Go.Sx.Fr (fun _ => False) w w6 → I1 i14 w6 → 
         ((i14 < (n4 : Int) →
         ((i14 < (40 : Int) →
          (∃ T15 : List Nat, (∀ b ∈ T15, b < w6.heap.size ∧ b ∉ []) ∧
           ((0 : Int) ≤ i14 ∧ i14 < (n4 : Int) ∧ ∃ p16 : Nat, ∃ o17 : Nat, A3 = some ⟨p16, o17, none⟩ ∧
           (∀ w7 : World, Go.Sx.Fr (fun _ => False) w w7 → Below w6.heap.size w6 w7 → ∃ i18 : Int, Go.Sx.CellsAt w7 p16 (o17 + (i14).toNat * 2 + 0) [.int .i64 i18] ∧ (p16 < w6.heap.size ∧ p16 ∉ (T15 ++ [])) ∧ 
           ((0 : Int) ≤ i14 ∧ i14 < (n4 : Int) ∧ ∃ p19 : Nat, ∃ o20 : Nat, A3 = some ⟨p19, o20, none⟩ ∧
           (∃ i21 : Int, Go.Sx.CellsAt w7 p19 (o20 + (i14).toNat * 2 + 1) [.int .i64 i21] ∧ (p19 < w6.heap.size ∧ p19 ∉ (T15 ++ [])) ∧ 
           (
           Calls Try.prog 14 #[(v12), (.int .i64 i18), (.int .i64 i21)] w7 fun r w8 => ∃ i22 : Int, r = .returned (.int .i64 i22) ∧ (Go.Sx.Fr (fun _ => False) w w8 ∧ Go.Sx.Mild [] w7 w8) ∧ 
           (I1 (IntKind.i64.wrap (i14 + (1 : Int))) w8 ∧ M1 (IntKind.i64.wrap (i14 + (1 : Int))) w8 < M1 i14 w6)))))))) ∧
          ((40 : Int) ≤ i14 →
          (
           Calls Try.prog 16 #[((Value.pointer (some ⟨ga, 0, none⟩)))] w6 fun r w7 => ∃ A15 : Option Addr, ∃ n16 : Nat, ∃ n17 : Nat, r = .returned (.slice A15 n16 n17) ∧ (Go.Sx.Fr (fun _ => False) w w7 ∧ Go.Sx.Mild [] w6 w7) ∧ 
           (
           Calls Try.prog 16 #[((Value.pointer (some ⟨gb, 0, none⟩)))] w7 fun r w8 => ∃ A18 : Option Addr, ∃ n19 : Nat, ∃ n20 : Nat, r = .returned (.slice A18 n19 n20) ∧ (Go.Sx.Fr (fun _ => False) w w8 ∧ Go.Sx.Mild [] w7 w8) ∧ 
           (
           Calls Try.prog 15 #[(.slice A15 n16 n17), (.slice A18 n19 n20)] w8 fun r w9 => ∃ b21 : Bool, r = .returned (.bool b21) ∧ (Go.Sx.Fr (fun _ => False) w w9 ∧ Go.Sx.Mild [] w8 w9) ∧ 
           ((b21 = true →
           (
            Calls Try.prog 17 #[(v12)] w9 fun r w10 => ∃ i22 : Int, r = .returned (.int .i64 i22) ∧ (Go.Sx.Fr (fun _ => False) w w10 ∧ Go.Sx.Mild [] w9 w10) ∧ 
            (
            Calls Try.prog 17 #[((Value.pointer (some ⟨ga, 0, none⟩)))] w10 fun r w11 => ∃ i23 : Int, r = .returned (.int .i64 i23) ∧ (Go.Sx.Fr (fun _ => False) w w11 ∧ Go.Sx.Mild [] w10 w11) ∧ 
            ((Ret (Value.bool true) w) (.returned (.bool (decide (i23 ≤ i22)))) w11)))) ∧
           (b21 = false →
           ((Ret (Value.bool true) w) (.returned (.bool false)) w9))))))))) ∧
         ((n4 : Int) ≤ i14 →
         (
          Calls Try.prog 16 #[((Value.pointer (some ⟨ga, 0, none⟩)))] w6 fun r w7 => ∃ A15 : Option Addr, ∃ n16 : Nat, ∃ n17 : Nat, r = .returned (.slice A15 n16 n17) ∧ (Go.Sx.Fr (fun _ => False) w w7 ∧ Go.Sx.Mild [] w6 w7) ∧ 
          (
          Calls Try.prog 16 #[((Value.pointer (some ⟨gb, 0, none⟩)))] w7 fun r w8 => ∃ A18 : Option Addr, ∃ n19 : Nat, ∃ n20 : Nat, r = .returned (.slice A18 n19 n20) ∧ (Go.Sx.Fr (fun _ => False) w w8 ∧ Go.Sx.Mild [] w7 w8) ∧ 
          (
          Calls Try.prog 15 #[(.slice A15 n16 n17), (.slice A18 n19 n20)] w8 fun r w9 => ∃ b21 : Bool, r = .returned (.bool b21) ∧ (Go.Sx.Fr (fun _ => False) w w9 ∧ Go.Sx.Mild [] w8 w9) ∧ 
          ((b21 = true →
          (
           Calls Try.prog 17 #[(v12)] w9 fun r w10 => ∃ i22 : Int, r = .returned (.int .i64 i22) ∧ (Go.Sx.Fr (fun _ => False) w w10 ∧ Go.Sx.Mild [] w9 w10) ∧ 
           (
           Calls Try.prog 17 #[((Value.pointer (some ⟨ga, 0, none⟩)))] w10 fun r w11 => ∃ i23 : Int, r = .returned (.int .i64 i23) ∧ (Go.Sx.Fr (fun _ => False) w w11 ∧ Go.Sx.Mild [] w10 w11) ∧ 
           ((Ret (Value.bool true) w) (.returned (.bool (decide (i23 ≤ i22)))) w11)))) ∧
          (b21 = false →
          ((Ret (Value.bool true) w) (.returned (.bool false)) w9))))))))))))
  := by
  have hn := h.len
  have hle := h.le
  have hx : ∀ {w'}, Fr (fun _ => False) w w' → Sl w' (fun b => b < w.heap.size) (.slice A3 n4 n5) qs := fun f => h.below (fr_below f)
  refine (clone_c ha).mono ?_
  rintro e w5 ⟨gc, F1, F2, hg', t5, t5', u5, ge5', d5, rfl⟩
  have f5 := up_fr f4 u5 gea
  have ge1 := up_ge u5 gea f4.size
  have b5 := hb.past u5 (fun b hb hm => dis b hm hb)
  have d1 : ∀ b ∈ Fb, b ∉ F1 := apart_up u5 hb.lt (fun b hb hm => dis b hm hb)
  have d2 : ∀ b ∈ F2, b ∉ Fb := fun b hm hb' => by have := hb.lt b hb'; have := ge5' b hm; omega
  refine ⟨_, rfl, ⟨f5, mild_nil u5.fr.size⟩, _, eql_tal w5 _, (fun h => by cases h), fun _ => ?_⟩
  refine ⟨TCJ w n4 ga gb gc xs F1 Fb, TCM n4, ⟨0, xs, F2, rfl, Nat.zero_le _, t5, b5, t5', fun b hb => Nat.le_trans f4.size (ge5' b hb), d5, d2, Int.le_refl _⟩, ?_⟩
  rintro i14 w6 f6 ⟨k, zs, Fc, rfl, hk, ha, hb, hc, gec, dca, dcb, hs⟩
  have fin := copies_end f6 ha hb hc ge1 geb gec (fun b hb hm => d1 b hm hb) dca dcb hs
  refine ⟨fun hlt => ⟨fun h40 => ?_, fun h40 => fin⟩, fun hge => fin⟩
  obtain ⟨p, o, rfl, hp, _, hwf, _⟩ := Sl.cells (hx f6) k (by omega)
  have hpl : p < w6.heap.size := Nat.lt_of_lt_of_le hp f6.size
  have at1 : ∀ {w'}, Fr (fun _ => False) w w' → CellsAt w' p (o + k * 2 + 0) [.int .i64 (qs[k]'(by omega)).1] := fun f => cells_fst ((hx f).at_k k (by omega))
  have at2 : ∀ {w'}, Fr (fun _ => False) w w' → CellsAt w' p (o + k * 2 + 1) [.int .i64 (qs[k]'(by omega)).2] := fun f => cells_snd ((hx f).at_k k (by omega))
  refine ⟨[], (fun b hb => by cases hb), by omega, hlt, p, o, rfl, fun w7 f7 b7 => ⟨_, at1 f7, ⟨hpl, by simp⟩, by omega, hlt, p, o, rfl, _, at2 f7, ⟨hpl, by simp⟩, ?_⟩⟩
  refine (add_c (hc.below b7) _ _ (wf_snd hwf)).mono ?_
  rintro e w8 ⟨F8, c8, u8, rfl⟩
  have f8 := up_fr f7 u8 gec
  refine ⟨_, rfl, ⟨f8, mild_nil u8.fr.size⟩, ⟨k + 1, _, F8, by rw [wrap_in (by omega)]; rfl, by omega, (ha.below b7).past u8 (fun b hb hm => dca b hm hb), (hb.below b7).past u8 (fun b hb hm => dcb b hm hb), c8, up_ge u8 gec f7.size, ?_, ?_, Int.le_trans hs (add_le _ _ _)⟩, ?_⟩
  · exact fun b hm hb' => apart_up u8 (ha.below b7).lt (fun b hb hm => dca b hm hb) b hb' hm
  · exact fun b hm hb' => apart_up u8 (hb.below b7).lt (fun b hb hm => dcb b hm hb) b hb' hm
  rw [wrap_in (by omega)]
  show (n4 - ((k : Int) + 1) : Int).toNat < (n4 - (k : Int) : Int).toNat
  omega
set_option maxHeartbeats 4000000 in
theorem tallyCopies_walk (w : World) (A : Option Addr) (n c : Nat) (xs : List PR) (h : Sl w (fun b => b < w.heap.size) (.slice A n c) xs) (A' : Option Addr) (n' c' : Nat) (ys : List PR) (h' : Sl w (fun b => b < w.heap.size) (.slice A' n' c') ys) :
    Calls Try.prog 6 #[.slice A n c, .slice A' n' c'] w fun e w' => e = .returned (.bool true) ∧ Below w.heap.size w w' := by
  have hn := h.len
  refine tallyCopies_sy (Ret (.bool true) w) (fun _ => False) w A n c A' n' c' ?_
  refine (tshown_c w).mono ?_
  rintro e w1 ⟨rfl, b1⟩
  have f1 := (Fr.refl (fun _ => False) w).step b1
  refine ⟨_, rfl, ok_ret b1 (Fr.refl _ _), ?_⟩
  refine (new_c w1 9).mono ?_
  rintro e w2 ⟨ga, hga, h2, b2, rfl⟩
  have f2 := f1.step b2
  refine ⟨_, rfl, ok_ret b2 f1, ?_⟩
  refine (new_c w2 9).mono ?_
  rintro e w3 ⟨gb, hgb, h3, b3, rfl⟩
  have f3 := f2.step b3
  have lga := h2.lt ga (by simp)
  refine ⟨_, rfl, ok_ret b3 f2, (fun h => by cases h), fun _ => ⟨_, eql_tal w3 _, (fun h => by cases h), fun _ => ⟨_, eql_tal w3 _, (fun h => by cases h), fun _ => ?_⟩⟩⟩
  refine ⟨TCI w n ga gb, TCM n, ⟨0, _, [ga], [gb], rfl, Nat.zero_le _, h2.below b3, h3, ?_, ?_, ?_⟩, ?_⟩
  · intro b hb; simp at hb; subst hb; exact Nat.le_trans f1.size hga
  · intro b hb; simp at hb; subst hb; exact Nat.le_trans f2.size hgb
  · intro b hb hm; simp at hb hm; omega
  rintro i11 w4 f4 ⟨k, zs, Fa, Fb, rfl, hk, ha, hb, gea, geb, dis⟩
  have fin := copies_rest f4 h' ha hb gea geb dis
  exact ⟨fun hlt => ⟨fun h40 => copies_step f4 h (by omega) ha hb gea geb dis, fun h40 => fin⟩, fun hge => fin⟩
end Go.Proofs.Ytdjjfpcfclheiaa
