/- Net: the law NetCopies. -/
import Derived.Test.YtdjjfpcfclheiaaNetH
import Derived.Test.YtdjjfpcfclheiaaNetY
set_option linter.unusedSimpArgs false
set_option linter.unusedVariables false
namespace Go.Proofs.Ytdjjfpcfclheiaa
open Go Go.RowKit Go.Proofs Go.Trc Go.Sx
def opsV (s : NS) (os : List OpT) : NS := os.foldl (fun s o => opV s (bits .and .i64 o.1 7) o.2.1 o.2.2.1 (o.2.2.2.map toF)) s
def z0 : NS := ([], List.replicate 6 0)
theorem opsV_step (s : NS) (os : List OpT) (k : Nat) (h : k < os.length) : opsV s (os.take (k + 1)) = opV (opsV s (os.take k)) (bits .and .i64 os[k].1 7) os[k].2.1 os[k].2.2.1 (os[k].2.2.2.map toF) := by
  unfold opsV
  rw [List.take_succ_eq_append_getElem h, List.foldl_append]; rfl
theorem loud2 {w : World} {gn gy B : Nat} {xss xs' : List (List UInt8)} {ts ts' : List Int} {F : List Nat} (hn : Net w gn xss ts F) (hy : RNet w gy B xs' ts') : ∀ b ∈ gy :: F, ¬ still w b := fun b hb => by
  rcases List.mem_cons.1 hb with rfl | hb
  · exact hy.loud b (by simp)
  · exact hn.loud b hb
theorem Net.own_ne {w : World} {g : Nat} {xss : List (List UInt8)} {ts : List Int} {F : List Nat} (h : Net w g xss ts F) {α : Type} [Rep α] {base : Nat} {e : TypeId} {v : Value} {ys : List α} (o : OwnF w base e v ys) (h0 : TN ≠ e) (h1 : e ≠ TT) (h2 : e ≠ TE) : ∀ k, v.ownBlock = some k → ¬ k ∈ F := by
  cases h with
  | mk t Ft h =>
    intro k hk hm
    rcases List.mem_cons.1 hm with rfl | hm
    · obtain ⟨A, n, c, hg, _⟩ := h.hg
      exact own_ne' o hg h0 hk
    · exact h.tal.own_ne o h1 h2 k hk hm
set_option maxHeartbeats 4000000 in
theorem ncopies_end {w w9 : World} {ga gb gc g9 g23 n39 : Nat} {s z : NS} {Fa Fb Fc : List Nat} (f9 : Fr (fun _ => False) w w9) (na : Net w9 ga s.1 s.2 Fa) (nb : Net w9 gb s.1 s.2 Fb) (nc : Net w9 gc z.1 z.2 Fc) (hz : n39 = z.1.length)
    (gea : ∀ b ∈ Fa, w.heap.size ≤ b) (geb : ∀ b ∈ Fb, w.heap.size ≤ b) (dab : ∀ b ∈ Fa, b ∉ Fb) (dca : ∀ b ∈ Fc, b ∉ Fa) (dcb : ∀ b ∈ Fc, b ∉ Fb) (a9 : g9 ∉ Fa) (b9 : g9 ∉ Fb) (a23 : g23 ∉ Fa) (b23 : g23 ∉ Fb) :
∃ T47 : List Nat, (∀ b ∈ T47, b < w9.heap.size ∧ b ∉ [g23, g9]) ∧
              (∀ w10 : World, Go.Sx.Fr (fun _ => False) w w10 → Below w9.heap.size w9 w10 → 
              Calls Try.prog 29 #[((Value.pointer (some ⟨ga, 0, none⟩)))] w10 fun r w11 => ∃ i48 : Int, r = .returned (.int .i64 i48) ∧ (Go.Sx.Fr (fun _ => False) w w11 ∧ Go.Sx.Mild [g23, g9] w10 w11) ∧ Go.Sx.Keep w9.heap.size (T47 ++ []) w10 w11 ∧ 
              (
              Calls Try.prog 29 #[((Value.pointer (some ⟨gb, 0, none⟩)))] w11 fun r w12 => ∃ i49 : Int, r = .returned (.int .i64 i49) ∧ (Go.Sx.Fr (fun _ => False) w w12 ∧ Go.Sx.Mild [g23, g9] w11 w12) ∧ Go.Sx.Keep w9.heap.size (T47 ++ []) w11 w12 ∧ 
              ((i48 = i49 →
              (
               Calls Try.prog 36 #[((Value.pointer (some ⟨ga, 0, none⟩)))] w12 fun r w13 => ∃ A50 : Option Addr, ∃ n51 : Nat, ∃ n52 : Nat, r = .returned (.slice A50 n51 n52) ∧ (Go.Sx.Fr (fun _ => False) w w13 ∧ Go.Sx.Mild [g23, g9] w12 w13) ∧ Go.Sx.Keep w9.heap.size (T47 ++ []) w12 w13 ∧ 
               (
               Calls Try.prog 36 #[((Value.pointer (some ⟨gb, 0, none⟩)))] w13 fun r w14 => ∃ A53 : Option Addr, ∃ n54 : Nat, ∃ n55 : Nat, r = .returned (.slice A53 n54 n55) ∧ (Go.Sx.Fr (fun _ => False) w w14 ∧ Go.Sx.Mild [g23, g9] w13 w14) ∧ Go.Sx.Keep w9.heap.size (T47 ++ []) w13 w14 ∧ 
               (
               Calls Try.prog 15 #[(.slice A50 n51 n52), (.slice A53 n54 n55)] w14 fun r w15 => ∃ b56 : Bool, r = .returned (.bool b56) ∧ (Go.Sx.Fr (fun _ => False) w w15 ∧ Go.Sx.Mild [g23, g9] w14 w15) ∧ Go.Sx.Keep w9.heap.size (T47 ++ []) w14 w15 ∧ 
               ((b56 = true →
               (
                Calls Try.prog 29 #[((Value.pointer (some ⟨gc, 0, none⟩)))] w15 fun r w16 => ∃ i57 : Int, r = .returned (.int .i64 i57) ∧ (Go.Sx.Fr (fun _ => False) w w16 ∧ Go.Sx.Mild [g23, g9] w15 w16) ∧ Go.Sx.Keep w9.heap.size (T47 ++ []) w15 w16 ∧ 
                ((Ret (Value.bool true) w) (.returned (.bool (i57 == (n39 : Int)))) w16))) ∧
               (b56 = false →
               ((Ret (Value.bool true) w) (.returned (.bool false)) w15))))))) ∧
              (¬ i48 = i49 →
              ((Ret (Value.bool true) w) (.returned (.bool false)) w12)))))
  := by
  have ap : ∀ {F : List Nat}, g9 ∉ F → g23 ∉ F → ∀ b ∈ [g23, g9], b ∉ F := by
    intro F h1 h2 b hb
    simp at hb
    rcases hb with rfl | rfl
    · exact h2
    · exact h1
  refine ⟨Fa ++ Fb, fun b hb => ⟨?_, ?_⟩, fun w10 f10 b10 => ?_⟩
  · rcases List.mem_append.1 hb with hb | hb
    · exact na.lt b hb
    · exact nb.lt b hb
  · intro hm
    rcases List.mem_append.1 hb with hb | hb
    · exact ap a9 a23 b hm hb
    · exact ap b9 b23 b hm hb
  refine (nLen (na.below b10)).mono ?_
  rintro e w11 ⟨rfl, b11⟩
  have f11 := f10.step b11
  have B11 := b10.trans (b11.mono b10.size)
  refine ⟨_, rfl, ok_ret b11 f10, keep_below b11 b10.size, ?_⟩
  refine (nLen (nb.below B11)).mono ?_
  rintro e w12 ⟨rfl, b12⟩
  have f12 := f11.step b12
  have B12 := B11.trans (b12.mono B11.size)
  refine ⟨_, rfl, ok_ret b12 f11, keep_below b12 B11.size, fun _ => ?_, fun hne => absurd rfl hne⟩
  have na2 := na.below B12
  have nb2 := nb.below B12
  have nc2 := nc.below B12
  refine (nTally na2).mono ?_
  rintro e w13 ⟨F13, A, m, c, n13, u13, o13, rfl⟩
  have f13 := up_fr f12 u13 gea
  have nb3 := nb2.past u13 (fun b hb hm => dab b hm hb) na2.loud
  have nc3 := nc2.past u13 dca na2.loud
  refine ⟨A, m, c, rfl, ⟨f13, mild_up u13 (ap a9 a23)⟩, keepUp u13 B12.size (fun b hb => .inl (by simp [hb])), ?_⟩
  refine (nTally nb3).mono ?_
  rintro e w14 ⟨F14, A', m', c', n14, u14, o14, rfl⟩
  have f14 := up_fr f13 u14 geb
  have nc4 := nc3.past u14 dcb nb3.loud
  have o13' := OwnF.past o13 u14.fr (nb3.own_ne o13 (by decide) (by decide) (by decide))
  have S13 := Nat.le_trans B12.size u13.fr.size
  refine ⟨A', m', c', rfl, ⟨f14, mild_up u14 (ap b9 b23)⟩, keepUp u14 S13 (fun b hb => .inl (by simp [hb])), ?_⟩
  have S14 := Nat.le_trans S13 u14.fr.size
  refine (ints_c o13'.sl o14.sl).mono ?_
  rintro e w15 ⟨rfl, b15⟩
  have f15 := f14.step b15
  refine ⟨_, rfl, ok_ret b15 f14, keep_below b15 S14, fun _ => ?_, fun h => by simp at h⟩
  refine (nLen (nc4.below b15)).mono ?_
  rintro e w16 ⟨rfl, b16⟩
  refine ⟨_, rfl, ok_ret b16 f15, keep_below b16 (Nat.le_trans S14 b15.size), ret_leaf (f15.step b16) ?_⟩
  rw [hz]; simp
def NC3 (w : World) (n4 g9 g23 ga gb gc : Nat) (s : NS) (Fa Fb : List Nat) (b36 : Bool) (i37 : Int) (A38 : Option Addr) (n39 n40 : Nat) (i41 i42 i43 i44 i45 i46 : Int) (w' : World) : Prop :=
  ∃ (k : Nat) (z : NS) (Fc : List Nat), i37 = k ∧ k ≤ n4 ∧ k ≤ 40 ∧ Net w' gc z.1 z.2 Fc ∧ RNet w' g9 (240 + 6 * k) z.1 z.2 ∧ Net w' ga s.1 s.2 Fa ∧ Net w' gb s.1 s.2 Fb ∧ (∀ b ∈ Fc, w.heap.size ≤ b) ∧ g9 ∉ Fc ∧ g23 ∉ Fc ∧ g23 < w'.heap.size ∧ (∀ b ∈ Fa, b ∉ Fc) ∧ (∀ b ∈ Fb, b ∉ Fc)
def NCM3 (n : Nat) (b36 : Bool) (i37 : Int) (A38 : Option Addr) (n39 n40 : Nat) (i41 i42 i43 i44 i45 i46 : Int) (w' : World) : Nat := (n - i37 : Int).toNat
set_option maxHeartbeats 8000000 in
theorem ncopies_three {w w7 : World} {A3 A14 : Option Addr} {n4 n5 n15 n16 ga gb g9 g23 : Nat} {b12 : Bool} {i17 i18 i19 i20 i21 i22 : Int} {s : NS} {Fa Fb : List Nat} {ys : List OpT} (f7 : Fr (fun _ => False) w w7) (h : Sl w (fun b => b < w.heap.size) (.slice A3 n4 n5) ys) (na : Net w7 ga s.1 s.2 Fa) (nb : Net w7 gb s.1 s.2 Fb)
    (y : RNet w7 g9 240 s.1 s.2) (gea : ∀ b ∈ Fa, w.heap.size ≤ b) (geb : ∀ b ∈ Fb, w.heap.size ≤ b) (ge9 : w.heap.size ≤ g9) (dab : ∀ b ∈ Fa, b ∉ Fb) (a9 : g9 ∉ Fa) (b9 : g9 ∉ Fb) (a23 : g23 ∉ Fa) (b23 : g23 ∉ Fb) (lt23 : g23 < w7.heap.size) (hne : g23 ≠ g9) :
Calls Try.prog 37 #[((Value.pointer (some ⟨ga, 0, none⟩)))] w7 fun r w8 => ∃ v34 : Value, r = .returned (v34) ∧ (Go.Sx.Fr (fun _ => False) w w8 ∧ Go.Sx.Mild [g23, g9] w7 w8) ∧ 
          (∃ b35 : Bool, (binOp .eql 43 (v34) (.pointer none)).run Try.prog w8 = .ok (.bool b35) w8 ∧
          ((b35 = true →
          ((Ret (Value.bool true) w) (.returned (.bool false)) w8)) ∧
          (b35 = false →
          (∃ (I2 : Bool → Int → Option Addr → Nat → Nat → Int → Int → Int → Int → Int → Int → World → Prop) (M2 : Bool → Int → Option Addr → Nat → Nat → Int → Int → Int → Int → Int → Int → World → Nat), (I2 b12 (0 : Int) A14 n15 n16 i17 i18 i19 i20 i21 i22 w8) ∧
           ∀ b36 : Bool, ∀ i37 : Int, ∀ A38 : Option Addr, ∀ n39 : Nat, ∀ n40 : Nat, ∀ i41 : Int, ∀ i42 : Int, ∀ i43 : Int, ∀ i44 : Int, ∀ i45 : Int, ∀ i46 : Int, ∀ w9 : World, Go.Sx.Fr (fun _ => False) w w9 → I2 b36 i37 A38 n39 n40 i41 i42 i43 i44 i45 i46 w9 → w9.heap[g9]? = some (.cells #[.slice A38 n39 n40, .int .i64 i41, .int .i64 i42, .int .i64 i43, .int .i64 i44, .int .i64 i45, .int .i64 i46] 65 (0, 0)) → 
            ((i37 < (n4 : Int) →
            ((i37 < (40 : Int) →
             ((0 : Int) ≤ i37 ∧ i37 < (n4 : Int) ∧ ∃ p47 : Nat, ∃ o48 : Nat, A3 = some ⟨p47, o48, none⟩ ∧
              (∃ i49 : Int, ∃ i50 : Int, ∃ i51 : Int, ∃ A52 : Option Addr, ∃ n53 : Nat, ∃ n54 : Nat, Go.Sx.CellsAt w9 p47 (o48 + (i37).toNat * 4 + 0) [.int .i64 i49, .int .i64 i50, .int .i64 i51, .slice A52 n53 n54] ∧ 
              (w9.heap[g9]? = some (.cells #[.slice A38 n39 n40, .int .i64 i41, .int .i64 i42, .int .i64 i43, .int .i64 i44, .int .i64 i45, .int .i64 i46] 65 (0, 0)) → 
              Calls Try.prog 38 #[(v34), (.pointer (some ⟨g9, 0, none⟩)), (.agg #[.int .i64 i49, .int .i64 i50, .int .i64 i51, .slice A52 n53 n54])] w9 fun r w10 => ∃ b55 : Bool, ∃ A56 : Option Addr, ∃ n57 : Nat, ∃ n58 : Nat, ∃ i59 : Int, ∃ i60 : Int, ∃ i61 : Int, ∃ i62 : Int, ∃ i63 : Int, ∃ i64 : Int, r = .returned (.bool b55) ∧ (Go.Sx.Fr (fun _ => False) w w10 ∧ Go.Sx.Mild [g23] w9 w10) ∧ w10.heap[g9]? = some (.cells #[.slice A56 n57 n58, .int .i64 i59, .int .i64 i60, .int .i64 i61, .int .i64 i62, .int .i64 i63, .int .i64 i64] 65 (0, 0)) ∧ 
              ((b55 = false →
              ((Ret (Value.bool true) w) (.returned (.bool false)) w10)) ∧
              (b55 = true →
              (I2 b36 (IntKind.i64.wrap (i37 + (1 : Int))) A56 n57 n58 i59 i60 i61 i62 i63 i64 w10 ∧ M2 b36 (IntKind.i64.wrap (i37 + (1 : Int))) A56 n57 n58 i59 i60 i61 i62 i63 i64 w10 < M2 b36 i37 A38 n39 n40 i41 i42 i43 i44 i45 i46 w9))))))) ∧
             ((40 : Int) ≤ i37 →
             (∃ T47 : List Nat, (∀ b ∈ T47, b < w9.heap.size ∧ b ∉ [g23, g9]) ∧
              (∀ w10 : World, Go.Sx.Fr (fun _ => False) w w10 → Below w9.heap.size w9 w10 → 
              Calls Try.prog 29 #[((Value.pointer (some ⟨ga, 0, none⟩)))] w10 fun r w11 => ∃ i48 : Int, r = .returned (.int .i64 i48) ∧ (Go.Sx.Fr (fun _ => False) w w11 ∧ Go.Sx.Mild [g23, g9] w10 w11) ∧ Go.Sx.Keep w9.heap.size (T47 ++ []) w10 w11 ∧ 
              (
              Calls Try.prog 29 #[((Value.pointer (some ⟨gb, 0, none⟩)))] w11 fun r w12 => ∃ i49 : Int, r = .returned (.int .i64 i49) ∧ (Go.Sx.Fr (fun _ => False) w w12 ∧ Go.Sx.Mild [g23, g9] w11 w12) ∧ Go.Sx.Keep w9.heap.size (T47 ++ []) w11 w12 ∧ 
              ((i48 = i49 →
              (
               Calls Try.prog 36 #[((Value.pointer (some ⟨ga, 0, none⟩)))] w12 fun r w13 => ∃ A50 : Option Addr, ∃ n51 : Nat, ∃ n52 : Nat, r = .returned (.slice A50 n51 n52) ∧ (Go.Sx.Fr (fun _ => False) w w13 ∧ Go.Sx.Mild [g23, g9] w12 w13) ∧ Go.Sx.Keep w9.heap.size (T47 ++ []) w12 w13 ∧ 
               (
               Calls Try.prog 36 #[((Value.pointer (some ⟨gb, 0, none⟩)))] w13 fun r w14 => ∃ A53 : Option Addr, ∃ n54 : Nat, ∃ n55 : Nat, r = .returned (.slice A53 n54 n55) ∧ (Go.Sx.Fr (fun _ => False) w w14 ∧ Go.Sx.Mild [g23, g9] w13 w14) ∧ Go.Sx.Keep w9.heap.size (T47 ++ []) w13 w14 ∧ 
               (
               Calls Try.prog 15 #[(.slice A50 n51 n52), (.slice A53 n54 n55)] w14 fun r w15 => ∃ b56 : Bool, r = .returned (.bool b56) ∧ (Go.Sx.Fr (fun _ => False) w w15 ∧ Go.Sx.Mild [g23, g9] w14 w15) ∧ Go.Sx.Keep w9.heap.size (T47 ++ []) w14 w15 ∧ 
               ((b56 = true →
               (
                Calls Try.prog 29 #[(v34)] w15 fun r w16 => ∃ i57 : Int, r = .returned (.int .i64 i57) ∧ (Go.Sx.Fr (fun _ => False) w w16 ∧ Go.Sx.Mild [g23, g9] w15 w16) ∧ Go.Sx.Keep w9.heap.size (T47 ++ []) w15 w16 ∧ 
                ((Ret (Value.bool true) w) (.returned (.bool (i57 == (n39 : Int)))) w16))) ∧
               (b56 = false →
               ((Ret (Value.bool true) w) (.returned (.bool false)) w15))))))) ∧
              (¬ i48 = i49 →
              ((Ret (Value.bool true) w) (.returned (.bool false)) w12))))))))) ∧
            ((n4 : Int) ≤ i37 →
            (∃ T47 : List Nat, (∀ b ∈ T47, b < w9.heap.size ∧ b ∉ [g23, g9]) ∧
             (∀ w10 : World, Go.Sx.Fr (fun _ => False) w w10 → Below w9.heap.size w9 w10 → 
             Calls Try.prog 29 #[((Value.pointer (some ⟨ga, 0, none⟩)))] w10 fun r w11 => ∃ i48 : Int, r = .returned (.int .i64 i48) ∧ (Go.Sx.Fr (fun _ => False) w w11 ∧ Go.Sx.Mild [g23, g9] w10 w11) ∧ Go.Sx.Keep w9.heap.size (T47 ++ []) w10 w11 ∧ 
             (
             Calls Try.prog 29 #[((Value.pointer (some ⟨gb, 0, none⟩)))] w11 fun r w12 => ∃ i49 : Int, r = .returned (.int .i64 i49) ∧ (Go.Sx.Fr (fun _ => False) w w12 ∧ Go.Sx.Mild [g23, g9] w11 w12) ∧ Go.Sx.Keep w9.heap.size (T47 ++ []) w11 w12 ∧ 
             ((i48 = i49 →
             (
              Calls Try.prog 36 #[((Value.pointer (some ⟨ga, 0, none⟩)))] w12 fun r w13 => ∃ A50 : Option Addr, ∃ n51 : Nat, ∃ n52 : Nat, r = .returned (.slice A50 n51 n52) ∧ (Go.Sx.Fr (fun _ => False) w w13 ∧ Go.Sx.Mild [g23, g9] w12 w13) ∧ Go.Sx.Keep w9.heap.size (T47 ++ []) w12 w13 ∧ 
              (
              Calls Try.prog 36 #[((Value.pointer (some ⟨gb, 0, none⟩)))] w13 fun r w14 => ∃ A53 : Option Addr, ∃ n54 : Nat, ∃ n55 : Nat, r = .returned (.slice A53 n54 n55) ∧ (Go.Sx.Fr (fun _ => False) w w14 ∧ Go.Sx.Mild [g23, g9] w13 w14) ∧ Go.Sx.Keep w9.heap.size (T47 ++ []) w13 w14 ∧ 
              (
              Calls Try.prog 15 #[(.slice A50 n51 n52), (.slice A53 n54 n55)] w14 fun r w15 => ∃ b56 : Bool, r = .returned (.bool b56) ∧ (Go.Sx.Fr (fun _ => False) w w15 ∧ Go.Sx.Mild [g23, g9] w14 w15) ∧ Go.Sx.Keep w9.heap.size (T47 ++ []) w14 w15 ∧ 
              ((b56 = true →
              (
               Calls Try.prog 29 #[(v34)] w15 fun r w16 => ∃ i57 : Int, r = .returned (.int .i64 i57) ∧ (Go.Sx.Fr (fun _ => False) w w16 ∧ Go.Sx.Mild [g23, g9] w15 w16) ∧ Go.Sx.Keep w9.heap.size (T47 ++ []) w15 w16 ∧ 
               ((Ret (Value.bool true) w) (.returned (.bool (i57 == (n39 : Int)))) w16))) ∧
              (b56 = false →
              ((Ret (Value.bool true) w) (.returned (.bool false)) w15))))))) ∧
             (¬ i48 = i49 →
             ((Ret (Value.bool true) w) (.returned (.bool false)) w12))))))))))))
  := by
  have hlen := h.len_eq
  have hx : ∀ {w'}, Fr (fun _ => False) w w' → Sl w' (fun b => b < w.heap.size) (.slice A3 n4 n5) ys := fun f => h.below (fr_below f)
  have lt9 := y.lt
  refine (nClone na).mono ?_
  rintro e w8 ⟨gc, Fa', Fc, na8, nc8, u8, ge8, d8, rfl⟩
  have f8 := up_fr f7 u8 gea
  have y8 := y.past u8 a9 na.loud
  have nb8 := nb.past u8 (fun b hb hm => dab b hm hb) na.loud
  have gea' := up_ge u8 gea f7.size
  have dba' : ∀ b ∈ Fb, b ∉ Fa' := apart_up u8 nb.lt (fun b hb hm => dab b hm hb)
  have a9' : g9 ∉ Fa' := apart_up (G := [g9]) u8 (by simp; exact lt9) (by intro b hb; simp at hb; subst hb; exact a9) g9 (by simp)
  have a23' : g23 ∉ Fa' := apart_up (G := [g23]) u8 (by simp; exact lt23) (by intro b hb; simp at hb; subst hb; exact a23) g23 (by simp)
  have c9 : g9 ∉ Fc := fun hm => by have := ge8 g9 hm; omega
  have c23 : g23 ∉ Fc := fun hm => by have := ge8 g23 hm; omega
  have dbc : ∀ b ∈ Fb, b ∉ Fc := fun b hb hm => by have := ge8 b hm; have := nb.lt b hb; omega
  refine ⟨_, rfl, ⟨f8, mild_up u8 fun b hb => ?_⟩, _, eql_net w8 _, (fun h => by cases h), fun _ => ?_⟩
  · simp at hb
    rcases hb with rfl | rfl
    · exact a23
    · exact a9
  refine ⟨NC3 w n4 g9 g23 ga gb gc s Fa' Fb, NCM3 n4, ⟨0, s, Fc, rfl, Nat.zero_le _, by omega, nc8, y8, na8, nb8, fun b hb => Nat.le_trans f7.size (ge8 b hb), c9, c23, Nat.lt_of_lt_of_le lt23 u8.fr.size, fun b hb hm => d8 b hm hb, dbc⟩, ?_⟩
  rintro b36 i37 A38 n39 n40 i41 i42 i43 i44 i45 i46 w9 f9 ⟨k, z, Fc, rfl, hk, hk40, nc, yc, na9, nb9, gec, c9, c23, lt239, dac, dbc⟩ t9
  obtain ⟨A0, m0, c0, t0, t1, t2, t3, t4, t5, th, hm0, -⟩ := yc.told
  have hn39 : n39 = z.1.length := by
    rw [t9] at th
    injection th with th
    injection th with th
    injection th with th
    injection th with th
    injection th with _ th
    omega
  have fin := ncopies_end f9 na9 nb9 nc hn39 gea' geb (fun b hb hm => dba' b hm hb) (fun b hb hm => dac b hm hb) (fun b hb hm => dbc b hm hb) a9' b9 a23' b23
  refine ⟨fun hlt => ⟨fun h40 => ?_, fun h40 => fin⟩, fun hge => fin⟩
  obtain ⟨p, o, A', n', c', rfl, hok, hc, hf⟩ := op_get (hx f9) k (by omega)
  refine ⟨by omega, hlt, p, o, rfl, _, _, _, A', n', c', hc, fun _ => ?_⟩
  refine (does_c nc yc c9 (ok := fun b => b < w.heap.size) (fun b hb h => by have := gec b hb; omega) (by omega) hf (by omega) _ _ _).mono ?_
  rintro e w10 ⟨rfl, F', n10, y10, u10, d10⟩
  obtain ⟨A1, m1, c1, t0', t1', t2', t3', t4', t5', th1, hm1, -⟩ := y10.told
  have gec9 : ∀ b ∈ g9 :: Fc, w.heap.size ≤ b := by
    intro b hb
    rcases List.mem_cons.1 hb with rfl | hb
    · exact ge9
    · exact gec b hb
  have f10 := up_fr f9 u10 gec9
  have hcons : ∀ {b : Nat}, b ≠ g9 → b ∉ Fc → b ∉ g9 :: Fc := fun h1 h2 hm => by
    rcases List.mem_cons.1 hm with rfl | hm
    · exact h1 rfl
    · exact h2 hm
  have ha : ∀ b ∈ Fa', b ∉ g9 :: Fc := fun b hb => hcons (fun e => a9' (e ▸ hb)) (dac b hb)
  have hb' : ∀ b ∈ Fb, b ∉ g9 :: Fc := fun b hb => hcons (fun e => b9 (e ▸ hb)) (dbc b hb)
  have h23 : g23 ∉ g9 :: Fc := hcons hne c23
  refine ⟨true, A1, m1, c1, t0', t1', t2', t3', t4', t5', rfl, ⟨f10, mild_up u10 fun b hb => by simp at hb; subst hb; exact h23⟩, th1, (fun h => by cases h), fun _ => ⟨⟨k + 1, _, F', by rw [wrap_in (by omega)]; rfl, by omega, by omega, n10, y10, na9.past u10 ha (loud2 nc yc), nb9.past u10 hb' (loud2 nc yc), fun b hb => up_ge u10 gec9 f9.size b (by simp [hb]), d10, ?_, Nat.lt_of_lt_of_le lt239 u10.fr.size, ?_, ?_⟩, ?_⟩⟩
  · exact fun hm => apart_up (G := [g23]) u10 (by simp; exact lt239) (by intro b hb; simp at hb; subst hb; exact h23) g23 (by simp) (by simp [hm])
  · exact fun b hb hm => apart_up u10 na9.lt ha b hb (by simp [hm])
  · exact fun b hb hm => apart_up u10 nb9.lt hb' b hb (by simp [hm])
  · unfold NCM3
    rw [wrap_in (by omega)]
    omega
def NC2 (w : World) (n1 g9 g23 ga gb : Nat) (s : NS) (xs : List OpT) (Fa : List Nat) (i24 : Int) (A25 : Option Addr) (n26 n27 : Nat) (i28 i29 i30 i31 i32 i33 : Int) (w' : World) : Prop :=
  ∃ (j : Nat) (z : NS) (Fb : List Nat), i24 = j ∧ j ≤ n1 ∧ j ≤ 40 ∧ z = opsV z0 (xs.take j) ∧ Net w' gb z.1 z.2 Fb ∧ RNet w' g23 (6 * j) z.1 z.2 ∧ Net w' ga s.1 s.2 Fa ∧ RNet w' g9 240 s.1 s.2 ∧ (∀ b ∈ Fb, w.heap.size ≤ b) ∧ g23 ∉ Fb ∧ g9 ∉ Fb ∧ (∀ b ∈ Fa, b ∉ Fb)
def NCM2 (n : Nat) (i24 : Int) (A25 : Option Addr) (n26 n27 : Nat) (i28 i29 i30 i31 i32 i33 : Int) (w' : World) : Nat := (n - i24 : Int).toNat
set_option maxHeartbeats 8000000 in
theorem ncopies_two {w w5 : World} {A0 A3 A14 : Option Addr} {n1 n2 n4 n5 n15 n16 ga gb g9 k : Nat} {b12 : Bool} {i17 i18 i19 i20 i21 i22 : Int} {s : NS} {Fa Fb : List Nat} {xs ys : List OpT} (f5 : Fr (fun _ => False) w w5) (hX : Sl w (fun b => b < w.heap.size) (.slice A0 n1 n2) xs) (h : Sl w (fun b => b < w.heap.size) (.slice A3 n4 n5) ys)
    (hs : s = opsV z0 (xs.take k)) (hk : k ≤ n1 ∧ k ≤ 40 ∧ (k = n1 ∨ k = 40)) (na : Net w5 ga s.1 s.2 Fa) (nb : Net w5 gb z0.1 z0.2 Fb) (y : RNet w5 g9 240 s.1 s.2) (gea : ∀ b ∈ Fa, w.heap.size ≤ b) (geb : ∀ b ∈ Fb, w.heap.size ≤ b) (ge9 : w.heap.size ≤ g9) (dab : ∀ b ∈ Fa, b ∉ Fb) (a9 : g9 ∉ Fa) (b9 : g9 ∉ Fb) :
∀ g23 : Nat, w.heap.size ≤ g23 → (∃ (I1 : Int → Option Addr → Nat → Nat → Int → Int → Int → Int → Int → Int → World → Prop) (M1 : Int → Option Addr → Nat → Nat → Int → Int → Int → Int → Int → Int → World → Nat), (∀ w6 : World, Go.Sx.Fr (fun _ => False) w w6 → Below w5.heap.size w5 w6 → w5.heap.size ≤ g23 → w6.heap[g23]? = some (.cells #[.slice none 0 0, .int .i64 (0 : Int), .int .i64 (0 : Int), .int .i64 (0 : Int), .int .i64 (0 : Int), .int .i64 (0 : Int), .int .i64 (0 : Int)] 65 (0, 0)) → I1 (0 : Int) none 0 0 (0 : Int) (0 : Int) (0 : Int) (0 : Int) (0 : Int) (0 : Int) w6) ∧
       ∀ i24 : Int, ∀ A25 : Option Addr, ∀ n26 : Nat, ∀ n27 : Nat, ∀ i28 : Int, ∀ i29 : Int, ∀ i30 : Int, ∀ i31 : Int, ∀ i32 : Int, ∀ i33 : Int, ∀ w7 : World, Go.Sx.Fr (fun _ => False) w w7 → I1 i24 A25 n26 n27 i28 i29 i30 i31 i32 i33 w7 → w7.heap[g23]? = some (.cells #[.slice A25 n26 n27, .int .i64 i28, .int .i64 i29, .int .i64 i30, .int .i64 i31, .int .i64 i32, .int .i64 i33] 65 (0, 0)) → 
        ((i24 < (n1 : Int) →
        ((i24 < (40 : Int) →
         ((0 : Int) ≤ i24 ∧ i24 < (n1 : Int) ∧ ∃ p34 : Nat, ∃ o35 : Nat, A0 = some ⟨p34, o35, none⟩ ∧
          (∃ i36 : Int, ∃ i37 : Int, ∃ i38 : Int, ∃ A39 : Option Addr, ∃ n40 : Nat, ∃ n41 : Nat, Go.Sx.CellsAt w7 p34 (o35 + (i24).toNat * 4 + 0) [.int .i64 i36, .int .i64 i37, .int .i64 i38, .slice A39 n40 n41] ∧ 
          (w7.heap[g23]? = some (.cells #[.slice A25 n26 n27, .int .i64 i28, .int .i64 i29, .int .i64 i30, .int .i64 i31, .int .i64 i32, .int .i64 i33] 65 (0, 0)) → 
          Calls Try.prog 38 #[((Value.pointer (some ⟨gb, 0, none⟩))), (.pointer (some ⟨g23, 0, none⟩)), (.agg #[.int .i64 i36, .int .i64 i37, .int .i64 i38, .slice A39 n40 n41])] w7 fun r w8 => ∃ b42 : Bool, ∃ A43 : Option Addr, ∃ n44 : Nat, ∃ n45 : Nat, ∃ i46 : Int, ∃ i47 : Int, ∃ i48 : Int, ∃ i49 : Int, ∃ i50 : Int, ∃ i51 : Int, r = .returned (.bool b42) ∧ (Go.Sx.Fr (fun _ => False) w w8 ∧ Go.Sx.Mild [g9] w7 w8) ∧ w8.heap[g23]? = some (.cells #[.slice A43 n44 n45, .int .i64 i46, .int .i64 i47, .int .i64 i48, .int .i64 i49, .int .i64 i50, .int .i64 i51] 65 (0, 0)) ∧ 
          (I1 (IntKind.i64.wrap (i24 + (1 : Int))) A43 n44 n45 i46 i47 i48 i49 i50 i51 w8 ∧ M1 (IntKind.i64.wrap (i24 + (1 : Int))) A43 n44 n45 i46 i47 i48 i49 i50 i51 w8 < M1 i24 A25 n26 n27 i28 i29 i30 i31 i32 i33 w7))))) ∧
         ((40 : Int) ≤ i24 →
         (
          Calls Try.prog 37 #[((Value.pointer (some ⟨ga, 0, none⟩)))] w7 fun r w8 => ∃ v34 : Value, r = .returned (v34) ∧ (Go.Sx.Fr (fun _ => False) w w8 ∧ Go.Sx.Mild [g23, g9] w7 w8) ∧ 
          (∃ b35 : Bool, (binOp .eql 43 (v34) (.pointer none)).run Try.prog w8 = .ok (.bool b35) w8 ∧
          ((b35 = true →
          ((Ret (Value.bool true) w) (.returned (.bool false)) w8)) ∧
          (b35 = false →
          (∃ (I2 : Bool → Int → Option Addr → Nat → Nat → Int → Int → Int → Int → Int → Int → World → Prop) (M2 : Bool → Int → Option Addr → Nat → Nat → Int → Int → Int → Int → Int → Int → World → Nat), (I2 b12 (0 : Int) A14 n15 n16 i17 i18 i19 i20 i21 i22 w8) ∧
           ∀ b36 : Bool, ∀ i37 : Int, ∀ A38 : Option Addr, ∀ n39 : Nat, ∀ n40 : Nat, ∀ i41 : Int, ∀ i42 : Int, ∀ i43 : Int, ∀ i44 : Int, ∀ i45 : Int, ∀ i46 : Int, ∀ w9 : World, Go.Sx.Fr (fun _ => False) w w9 → I2 b36 i37 A38 n39 n40 i41 i42 i43 i44 i45 i46 w9 → w9.heap[g9]? = some (.cells #[.slice A38 n39 n40, .int .i64 i41, .int .i64 i42, .int .i64 i43, .int .i64 i44, .int .i64 i45, .int .i64 i46] 65 (0, 0)) → 
            ((i37 < (n4 : Int) →
            ((i37 < (40 : Int) →
             ((0 : Int) ≤ i37 ∧ i37 < (n4 : Int) ∧ ∃ p47 : Nat, ∃ o48 : Nat, A3 = some ⟨p47, o48, none⟩ ∧
              (∃ i49 : Int, ∃ i50 : Int, ∃ i51 : Int, ∃ A52 : Option Addr, ∃ n53 : Nat, ∃ n54 : Nat, Go.Sx.CellsAt w9 p47 (o48 + (i37).toNat * 4 + 0) [.int .i64 i49, .int .i64 i50, .int .i64 i51, .slice A52 n53 n54] ∧ 
              (w9.heap[g9]? = some (.cells #[.slice A38 n39 n40, .int .i64 i41, .int .i64 i42, .int .i64 i43, .int .i64 i44, .int .i64 i45, .int .i64 i46] 65 (0, 0)) → 
              Calls Try.prog 38 #[(v34), (.pointer (some ⟨g9, 0, none⟩)), (.agg #[.int .i64 i49, .int .i64 i50, .int .i64 i51, .slice A52 n53 n54])] w9 fun r w10 => ∃ b55 : Bool, ∃ A56 : Option Addr, ∃ n57 : Nat, ∃ n58 : Nat, ∃ i59 : Int, ∃ i60 : Int, ∃ i61 : Int, ∃ i62 : Int, ∃ i63 : Int, ∃ i64 : Int, r = .returned (.bool b55) ∧ (Go.Sx.Fr (fun _ => False) w w10 ∧ Go.Sx.Mild [g23] w9 w10) ∧ w10.heap[g9]? = some (.cells #[.slice A56 n57 n58, .int .i64 i59, .int .i64 i60, .int .i64 i61, .int .i64 i62, .int .i64 i63, .int .i64 i64] 65 (0, 0)) ∧ 
              ((b55 = false →
              ((Ret (Value.bool true) w) (.returned (.bool false)) w10)) ∧
              (b55 = true →
              (I2 b36 (IntKind.i64.wrap (i37 + (1 : Int))) A56 n57 n58 i59 i60 i61 i62 i63 i64 w10 ∧ M2 b36 (IntKind.i64.wrap (i37 + (1 : Int))) A56 n57 n58 i59 i60 i61 i62 i63 i64 w10 < M2 b36 i37 A38 n39 n40 i41 i42 i43 i44 i45 i46 w9))))))) ∧
             ((40 : Int) ≤ i37 →
             (∃ T47 : List Nat, (∀ b ∈ T47, b < w9.heap.size ∧ b ∉ [g23, g9]) ∧
              (∀ w10 : World, Go.Sx.Fr (fun _ => False) w w10 → Below w9.heap.size w9 w10 → 
              Calls Try.prog 29 #[((Value.pointer (some ⟨ga, 0, none⟩)))] w10 fun r w11 => ∃ i48 : Int, r = .returned (.int .i64 i48) ∧ (Go.Sx.Fr (fun _ => False) w w11 ∧ Go.Sx.Mild [g23, g9] w10 w11) ∧ Go.Sx.Keep w9.heap.size (T47 ++ []) w10 w11 ∧ 
              (
              Calls Try.prog 29 #[((Value.pointer (some ⟨gb, 0, none⟩)))] w11 fun r w12 => ∃ i49 : Int, r = .returned (.int .i64 i49) ∧ (Go.Sx.Fr (fun _ => False) w w12 ∧ Go.Sx.Mild [g23, g9] w11 w12) ∧ Go.Sx.Keep w9.heap.size (T47 ++ []) w11 w12 ∧ 
              ((i48 = i49 →
              (
               Calls Try.prog 36 #[((Value.pointer (some ⟨ga, 0, none⟩)))] w12 fun r w13 => ∃ A50 : Option Addr, ∃ n51 : Nat, ∃ n52 : Nat, r = .returned (.slice A50 n51 n52) ∧ (Go.Sx.Fr (fun _ => False) w w13 ∧ Go.Sx.Mild [g23, g9] w12 w13) ∧ Go.Sx.Keep w9.heap.size (T47 ++ []) w12 w13 ∧ 
               (
               Calls Try.prog 36 #[((Value.pointer (some ⟨gb, 0, none⟩)))] w13 fun r w14 => ∃ A53 : Option Addr, ∃ n54 : Nat, ∃ n55 : Nat, r = .returned (.slice A53 n54 n55) ∧ (Go.Sx.Fr (fun _ => False) w w14 ∧ Go.Sx.Mild [g23, g9] w13 w14) ∧ Go.Sx.Keep w9.heap.size (T47 ++ []) w13 w14 ∧ 
               (
               Calls Try.prog 15 #[(.slice A50 n51 n52), (.slice A53 n54 n55)] w14 fun r w15 => ∃ b56 : Bool, r = .returned (.bool b56) ∧ (Go.Sx.Fr (fun _ => False) w w15 ∧ Go.Sx.Mild [g23, g9] w14 w15) ∧ Go.Sx.Keep w9.heap.size (T47 ++ []) w14 w15 ∧ 
               ((b56 = true →
               (
                Calls Try.prog 29 #[(v34)] w15 fun r w16 => ∃ i57 : Int, r = .returned (.int .i64 i57) ∧ (Go.Sx.Fr (fun _ => False) w w16 ∧ Go.Sx.Mild [g23, g9] w15 w16) ∧ Go.Sx.Keep w9.heap.size (T47 ++ []) w15 w16 ∧ 
                ((Ret (Value.bool true) w) (.returned (.bool (i57 == (n39 : Int)))) w16))) ∧
               (b56 = false →
               ((Ret (Value.bool true) w) (.returned (.bool false)) w15))))))) ∧
              (¬ i48 = i49 →
              ((Ret (Value.bool true) w) (.returned (.bool false)) w12))))))))) ∧
            ((n4 : Int) ≤ i37 →
            (∃ T47 : List Nat, (∀ b ∈ T47, b < w9.heap.size ∧ b ∉ [g23, g9]) ∧
             (∀ w10 : World, Go.Sx.Fr (fun _ => False) w w10 → Below w9.heap.size w9 w10 → 
             Calls Try.prog 29 #[((Value.pointer (some ⟨ga, 0, none⟩)))] w10 fun r w11 => ∃ i48 : Int, r = .returned (.int .i64 i48) ∧ (Go.Sx.Fr (fun _ => False) w w11 ∧ Go.Sx.Mild [g23, g9] w10 w11) ∧ Go.Sx.Keep w9.heap.size (T47 ++ []) w10 w11 ∧ 
             (
             Calls Try.prog 29 #[((Value.pointer (some ⟨gb, 0, none⟩)))] w11 fun r w12 => ∃ i49 : Int, r = .returned (.int .i64 i49) ∧ (Go.Sx.Fr (fun _ => False) w w12 ∧ Go.Sx.Mild [g23, g9] w11 w12) ∧ Go.Sx.Keep w9.heap.size (T47 ++ []) w11 w12 ∧ 
             ((i48 = i49 →
             (
              Calls Try.prog 36 #[((Value.pointer (some ⟨ga, 0, none⟩)))] w12 fun r w13 => ∃ A50 : Option Addr, ∃ n51 : Nat, ∃ n52 : Nat, r = .returned (.slice A50 n51 n52) ∧ (Go.Sx.Fr (fun _ => False) w w13 ∧ Go.Sx.Mild [g23, g9] w12 w13) ∧ Go.Sx.Keep w9.heap.size (T47 ++ []) w12 w13 ∧ 
              (
              Calls Try.prog 36 #[((Value.pointer (some ⟨gb, 0, none⟩)))] w13 fun r w14 => ∃ A53 : Option Addr, ∃ n54 : Nat, ∃ n55 : Nat, r = .returned (.slice A53 n54 n55) ∧ (Go.Sx.Fr (fun _ => False) w w14 ∧ Go.Sx.Mild [g23, g9] w13 w14) ∧ Go.Sx.Keep w9.heap.size (T47 ++ []) w13 w14 ∧ 
              (
              Calls Try.prog 15 #[(.slice A50 n51 n52), (.slice A53 n54 n55)] w14 fun r w15 => ∃ b56 : Bool, r = .returned (.bool b56) ∧ (Go.Sx.Fr (fun _ => False) w w15 ∧ Go.Sx.Mild [g23, g9] w14 w15) ∧ Go.Sx.Keep w9.heap.size (T47 ++ []) w14 w15 ∧ 
              ((b56 = true →
              (
               Calls Try.prog 29 #[(v34)] w15 fun r w16 => ∃ i57 : Int, r = .returned (.int .i64 i57) ∧ (Go.Sx.Fr (fun _ => False) w w16 ∧ Go.Sx.Mild [g23, g9] w15 w16) ∧ Go.Sx.Keep w9.heap.size (T47 ++ []) w15 w16 ∧ 
               ((Ret (Value.bool true) w) (.returned (.bool (i57 == (n39 : Int)))) w16))) ∧
              (b56 = false →
              ((Ret (Value.bool true) w) (.returned (.bool false)) w15))))))) ∧
             (¬ i48 = i49 →
             ((Ret (Value.bool true) w) (.returned (.bool false)) w12)))))))))))))))) ∧
        ((n1 : Int) ≤ i24 →
        (
         Calls Try.prog 37 #[((Value.pointer (some ⟨ga, 0, none⟩)))] w7 fun r w8 => ∃ v34 : Value, r = .returned (v34) ∧ (Go.Sx.Fr (fun _ => False) w w8 ∧ Go.Sx.Mild [g23, g9] w7 w8) ∧ 
         (∃ b35 : Bool, (binOp .eql 43 (v34) (.pointer none)).run Try.prog w8 = .ok (.bool b35) w8 ∧
         ((b35 = true →
         ((Ret (Value.bool true) w) (.returned (.bool false)) w8)) ∧
         (b35 = false →
         (∃ (I2 : Bool → Int → Option Addr → Nat → Nat → Int → Int → Int → Int → Int → Int → World → Prop) (M2 : Bool → Int → Option Addr → Nat → Nat → Int → Int → Int → Int → Int → Int → World → Nat), (I2 b12 (0 : Int) A14 n15 n16 i17 i18 i19 i20 i21 i22 w8) ∧
          ∀ b36 : Bool, ∀ i37 : Int, ∀ A38 : Option Addr, ∀ n39 : Nat, ∀ n40 : Nat, ∀ i41 : Int, ∀ i42 : Int, ∀ i43 : Int, ∀ i44 : Int, ∀ i45 : Int, ∀ i46 : Int, ∀ w9 : World, Go.Sx.Fr (fun _ => False) w w9 → I2 b36 i37 A38 n39 n40 i41 i42 i43 i44 i45 i46 w9 → w9.heap[g9]? = some (.cells #[.slice A38 n39 n40, .int .i64 i41, .int .i64 i42, .int .i64 i43, .int .i64 i44, .int .i64 i45, .int .i64 i46] 65 (0, 0)) → 
           ((i37 < (n4 : Int) →
           ((i37 < (40 : Int) →
            ((0 : Int) ≤ i37 ∧ i37 < (n4 : Int) ∧ ∃ p47 : Nat, ∃ o48 : Nat, A3 = some ⟨p47, o48, none⟩ ∧
             (∃ i49 : Int, ∃ i50 : Int, ∃ i51 : Int, ∃ A52 : Option Addr, ∃ n53 : Nat, ∃ n54 : Nat, Go.Sx.CellsAt w9 p47 (o48 + (i37).toNat * 4 + 0) [.int .i64 i49, .int .i64 i50, .int .i64 i51, .slice A52 n53 n54] ∧ 
             (w9.heap[g9]? = some (.cells #[.slice A38 n39 n40, .int .i64 i41, .int .i64 i42, .int .i64 i43, .int .i64 i44, .int .i64 i45, .int .i64 i46] 65 (0, 0)) → 
             Calls Try.prog 38 #[(v34), (.pointer (some ⟨g9, 0, none⟩)), (.agg #[.int .i64 i49, .int .i64 i50, .int .i64 i51, .slice A52 n53 n54])] w9 fun r w10 => ∃ b55 : Bool, ∃ A56 : Option Addr, ∃ n57 : Nat, ∃ n58 : Nat, ∃ i59 : Int, ∃ i60 : Int, ∃ i61 : Int, ∃ i62 : Int, ∃ i63 : Int, ∃ i64 : Int, r = .returned (.bool b55) ∧ (Go.Sx.Fr (fun _ => False) w w10 ∧ Go.Sx.Mild [g23] w9 w10) ∧ w10.heap[g9]? = some (.cells #[.slice A56 n57 n58, .int .i64 i59, .int .i64 i60, .int .i64 i61, .int .i64 i62, .int .i64 i63, .int .i64 i64] 65 (0, 0)) ∧ 
             ((b55 = false →
             ((Ret (Value.bool true) w) (.returned (.bool false)) w10)) ∧
             (b55 = true →
             (I2 b36 (IntKind.i64.wrap (i37 + (1 : Int))) A56 n57 n58 i59 i60 i61 i62 i63 i64 w10 ∧ M2 b36 (IntKind.i64.wrap (i37 + (1 : Int))) A56 n57 n58 i59 i60 i61 i62 i63 i64 w10 < M2 b36 i37 A38 n39 n40 i41 i42 i43 i44 i45 i46 w9))))))) ∧
            ((40 : Int) ≤ i37 →
            (∃ T47 : List Nat, (∀ b ∈ T47, b < w9.heap.size ∧ b ∉ [g23, g9]) ∧
             (∀ w10 : World, Go.Sx.Fr (fun _ => False) w w10 → Below w9.heap.size w9 w10 → 
             Calls Try.prog 29 #[((Value.pointer (some ⟨ga, 0, none⟩)))] w10 fun r w11 => ∃ i48 : Int, r = .returned (.int .i64 i48) ∧ (Go.Sx.Fr (fun _ => False) w w11 ∧ Go.Sx.Mild [g23, g9] w10 w11) ∧ Go.Sx.Keep w9.heap.size (T47 ++ []) w10 w11 ∧ 
             (
             Calls Try.prog 29 #[((Value.pointer (some ⟨gb, 0, none⟩)))] w11 fun r w12 => ∃ i49 : Int, r = .returned (.int .i64 i49) ∧ (Go.Sx.Fr (fun _ => False) w w12 ∧ Go.Sx.Mild [g23, g9] w11 w12) ∧ Go.Sx.Keep w9.heap.size (T47 ++ []) w11 w12 ∧ 
             ((i48 = i49 →
             (
              Calls Try.prog 36 #[((Value.pointer (some ⟨ga, 0, none⟩)))] w12 fun r w13 => ∃ A50 : Option Addr, ∃ n51 : Nat, ∃ n52 : Nat, r = .returned (.slice A50 n51 n52) ∧ (Go.Sx.Fr (fun _ => False) w w13 ∧ Go.Sx.Mild [g23, g9] w12 w13) ∧ Go.Sx.Keep w9.heap.size (T47 ++ []) w12 w13 ∧ 
              (
              Calls Try.prog 36 #[((Value.pointer (some ⟨gb, 0, none⟩)))] w13 fun r w14 => ∃ A53 : Option Addr, ∃ n54 : Nat, ∃ n55 : Nat, r = .returned (.slice A53 n54 n55) ∧ (Go.Sx.Fr (fun _ => False) w w14 ∧ Go.Sx.Mild [g23, g9] w13 w14) ∧ Go.Sx.Keep w9.heap.size (T47 ++ []) w13 w14 ∧ 
              (
              Calls Try.prog 15 #[(.slice A50 n51 n52), (.slice A53 n54 n55)] w14 fun r w15 => ∃ b56 : Bool, r = .returned (.bool b56) ∧ (Go.Sx.Fr (fun _ => False) w w15 ∧ Go.Sx.Mild [g23, g9] w14 w15) ∧ Go.Sx.Keep w9.heap.size (T47 ++ []) w14 w15 ∧ 
              ((b56 = true →
              (
               Calls Try.prog 29 #[(v34)] w15 fun r w16 => ∃ i57 : Int, r = .returned (.int .i64 i57) ∧ (Go.Sx.Fr (fun _ => False) w w16 ∧ Go.Sx.Mild [g23, g9] w15 w16) ∧ Go.Sx.Keep w9.heap.size (T47 ++ []) w15 w16 ∧ 
               ((Ret (Value.bool true) w) (.returned (.bool (i57 == (n39 : Int)))) w16))) ∧
              (b56 = false →
              ((Ret (Value.bool true) w) (.returned (.bool false)) w15))))))) ∧
             (¬ i48 = i49 →
             ((Ret (Value.bool true) w) (.returned (.bool false)) w12))))))))) ∧
           ((n4 : Int) ≤ i37 →
           (∃ T47 : List Nat, (∀ b ∈ T47, b < w9.heap.size ∧ b ∉ [g23, g9]) ∧
            (∀ w10 : World, Go.Sx.Fr (fun _ => False) w w10 → Below w9.heap.size w9 w10 → 
            Calls Try.prog 29 #[((Value.pointer (some ⟨ga, 0, none⟩)))] w10 fun r w11 => ∃ i48 : Int, r = .returned (.int .i64 i48) ∧ (Go.Sx.Fr (fun _ => False) w w11 ∧ Go.Sx.Mild [g23, g9] w10 w11) ∧ Go.Sx.Keep w9.heap.size (T47 ++ []) w10 w11 ∧ 
            (
            Calls Try.prog 29 #[((Value.pointer (some ⟨gb, 0, none⟩)))] w11 fun r w12 => ∃ i49 : Int, r = .returned (.int .i64 i49) ∧ (Go.Sx.Fr (fun _ => False) w w12 ∧ Go.Sx.Mild [g23, g9] w11 w12) ∧ Go.Sx.Keep w9.heap.size (T47 ++ []) w11 w12 ∧ 
            ((i48 = i49 →
            (
             Calls Try.prog 36 #[((Value.pointer (some ⟨ga, 0, none⟩)))] w12 fun r w13 => ∃ A50 : Option Addr, ∃ n51 : Nat, ∃ n52 : Nat, r = .returned (.slice A50 n51 n52) ∧ (Go.Sx.Fr (fun _ => False) w w13 ∧ Go.Sx.Mild [g23, g9] w12 w13) ∧ Go.Sx.Keep w9.heap.size (T47 ++ []) w12 w13 ∧ 
             (
             Calls Try.prog 36 #[((Value.pointer (some ⟨gb, 0, none⟩)))] w13 fun r w14 => ∃ A53 : Option Addr, ∃ n54 : Nat, ∃ n55 : Nat, r = .returned (.slice A53 n54 n55) ∧ (Go.Sx.Fr (fun _ => False) w w14 ∧ Go.Sx.Mild [g23, g9] w13 w14) ∧ Go.Sx.Keep w9.heap.size (T47 ++ []) w13 w14 ∧ 
             (
             Calls Try.prog 15 #[(.slice A50 n51 n52), (.slice A53 n54 n55)] w14 fun r w15 => ∃ b56 : Bool, r = .returned (.bool b56) ∧ (Go.Sx.Fr (fun _ => False) w w15 ∧ Go.Sx.Mild [g23, g9] w14 w15) ∧ Go.Sx.Keep w9.heap.size (T47 ++ []) w14 w15 ∧ 
             ((b56 = true →
             (
              Calls Try.prog 29 #[(v34)] w15 fun r w16 => ∃ i57 : Int, r = .returned (.int .i64 i57) ∧ (Go.Sx.Fr (fun _ => False) w w16 ∧ Go.Sx.Mild [g23, g9] w15 w16) ∧ Go.Sx.Keep w9.heap.size (T47 ++ []) w15 w16 ∧ 
              ((Ret (Value.bool true) w) (.returned (.bool (i57 == (n39 : Int)))) w16))) ∧
             (b56 = false →
             ((Ret (Value.bool true) w) (.returned (.bool false)) w15))))))) ∧
            (¬ i48 = i49 →
            ((Ret (Value.bool true) w) (.returned (.bool false)) w12))))))))))))))))
  := by
  have hlen := hX.len_eq
  have hx : ∀ {w'}, Fr (fun _ => False) w w' → Sl w' (fun b => b < w.heap.size) (.slice A0 n1 n2) xs := fun f => hX.below (fr_below f)
  have lt9 := y.lt
  intro g23 hg23
  have lta := na.lt
  have ltb := nb.lt
  refine ⟨fun i24 A25 n26 n27 i28 i29 i30 i31 i32 i33 w' => w5.heap.size ≤ g23 ∧ NC2 w n1 g9 g23 ga gb s xs Fa i24 A25 n26 n27 i28 i29 i30 i31 i32 i33 w', NCM2 n1, fun w6 f6 b6 lo23 t23 => ⟨lo23, 0, z0, Fb, rfl, Nat.zero_le _, by omega, rfl, nb.below b6, rnet_new t23, na.below b6, y.below b6, geb, fun hm => by have := ltb g23 hm; omega, b9, dab⟩, ?_⟩
  rintro i24 A25 n26 n27 i28 i29 i30 i31 i32 i33 w7 f7 ⟨lo23, j, z, Fb, rfl, hj, hj40, hz, nb7, z7, na7, y7, geb, c23, c9, dab⟩ t7
  have a23 : g23 ∉ Fa := fun hm => by have := lta g23 hm; omega
  have hne : g23 ≠ g9 := by omega
  have fin : (j = n1 ∨ j = 40) → _ := fun he => by
    have : j = k := by omega
    subst this
    rw [← hs] at hz
    subst hz
    exact ncopies_three (A14 := A14) (n15 := n15) (n16 := n16) (b12 := b12) (i17 := i17) (i18 := i18) (i19 := i19) (i20 := i20) (i21 := i21) (i22 := i22) f7 h na7 nb7 y7 gea geb ge9 dab a9 c9 a23 c23 z7.lt hne
  refine ⟨fun hlt => ⟨fun h40 => ?_, fun h40 => fin (.inr (by omega))⟩, fun hge => fin (.inl (by omega))⟩
  obtain ⟨p, o, A', n', c', rfl, hok, hc, hf⟩ := op_get (hx f7) j (by omega)
  refine ⟨by omega, hlt, p, o, rfl, _, _, _, A', n', c', hc, fun _ => ?_⟩
  refine (does_c nb7 z7 c23 (ok := fun b => b < w.heap.size) (fun b hb h => by have := geb b hb; omega) (by omega) hf (by omega) _ _ _).mono ?_
  rintro e w8 ⟨rfl, F', n8, z8, u8, d8⟩
  obtain ⟨A1, m1, c1, t0', t1', t2', t3', t4', t5', th1, hm1, -⟩ := z8.told
  have geb9 : ∀ b ∈ g23 :: Fb, w.heap.size ≤ b := by
    intro b hb
    rcases List.mem_cons.1 hb with rfl | hb
    · exact hg23
    · exact geb b hb
  have f8 := up_fr f7 u8 geb9
  have hcons : ∀ {b : Nat}, b ≠ g23 → b ∉ Fb → b ∉ g23 :: Fb := fun h1 h2 hm => by
    rcases List.mem_cons.1 hm with rfl | hm
    · exact h1 rfl
    · exact h2 hm
  have ha : ∀ b ∈ Fa, b ∉ g23 :: Fb := fun b hb => hcons (fun e => a23 (e ▸ hb)) (dab b hb)
  have h9 : g9 ∉ g23 :: Fb := hcons (Ne.symm hne) c9
  refine ⟨true, A1, m1, c1, t0', t1', t2', t3', t4', t5', rfl, ⟨f8, mild_up u8 fun b hb => by simp at hb; subst hb; exact h9⟩, th1, ⟨lo23, j + 1, _, F', by rw [wrap_in (by omega)]; rfl, by omega, by omega, by rw [opsV_step z0 xs j (by omega), ← hz], n8, z8, na7.past u8 ha (loud2 nb7 z7), y7.past u8 h9 (loud2 nb7 z7), fun b hb => up_ge u8 geb9 f7.size b (by simp [hb]), d8, ?_, ?_⟩, ?_⟩
  · exact fun hm => apart_up (G := [g9]) u8 (by simp; exact y7.lt) (by intro b hb; simp at hb; subst hb; exact h9) g9 (by simp) (by simp [hm])
  · exact fun b hb hm => apart_up u8 na7.lt ha b hb (by simp [hm])
  · unfold NCM2
    rw [wrap_in (by omega)]
    omega
def NC1 (w : World) (n1 g9 ga gb : Nat) (xs : List OpT) (Fb : List Nat) (b12 : Bool) (i13 : Int) (A14 : Option Addr) (n15 n16 : Nat) (i17 i18 i19 i20 i21 i22 : Int) (w' : World) : Prop :=
  ∃ (k : Nat) (s : NS) (Fa : List Nat), i13 = k ∧ k ≤ n1 ∧ k ≤ 40 ∧ s = opsV z0 (xs.take k) ∧ Net w' ga s.1 s.2 Fa ∧ RNet w' g9 (6 * k) s.1 s.2 ∧ Net w' gb z0.1 z0.2 Fb ∧ (∀ b ∈ Fa, w.heap.size ≤ b) ∧ g9 ∉ Fa ∧ (∀ b ∈ Fb, b ∉ Fa)
def NCM1 (n : Nat) (b12 : Bool) (i13 : Int) (A14 : Option Addr) (n15 n16 : Nat) (i17 i18 i19 i20 i21 i22 : Int) (w' : World) : Nat := (n - i13 : Int).toNat
set_option maxHeartbeats 8000000 in
theorem netCopies_walk (w : World) (A : Option Addr) (n c : Nat) (xs : List OpT) (hX : Sl w (fun b => b < w.heap.size) (.slice A n c) xs) (A' : Option Addr) (n' c' : Nat) (ys : List OpT) (h : Sl w (fun b => b < w.heap.size) (.slice A' n' c') ys) :
    Calls Try.prog 11 #[.slice A n c, .slice A' n' c'] w fun e w' => e = .returned (.bool true) ∧ Below w.heap.size w w' := by
  have hlen := hX.len_eq
  have hx : ∀ {w'}, Fr (fun _ => False) w w' → Sl w' (fun b => b < w.heap.size) (.slice A n c) xs := fun f => hX.below (fr_below f)
  refine netCopies_sx (Ret (.bool true) w) (fun _ => False) w A n c A' n' c' ?_
  refine (netShown_c w).mono ?_
  rintro e w1 ⟨rfl, b1⟩
  have f1 := (Fr.refl (fun _ => False) w).step b1
  refine ⟨_, rfl, ok_ret b1 (Fr.refl _ _), ?_⟩
  refine (netNew_c w1).mono ?_
  rintro e w2 ⟨ga, Fa, na, gea, b2, rfl⟩
  have f2 := f1.step b2
  refine ⟨_, rfl, ok_ret b2 f1, ?_⟩
  refine (netNew_c w2).mono ?_
  rintro e w3 ⟨gb, Fb, nb, geb, b3, rfl⟩
  have f3 := f2.step b3
  have na3 := na.below b3
  have lta := na.lt
  have lta3 := na3.lt
  have ltb := nb.lt
  refine ⟨_, rfl, ok_ret b3 f2, ?_⟩
  intro g9 hg9
  refine ⟨(fun h => by cases h), fun _ w4 f4 b4 lo9 t4 => ⟨_, eql_net w4 _, (fun h => by cases h), fun _ => ⟨_, eql_net w4 _, (fun h => by cases h), fun _ => ?_⟩⟩⟩
  have b9 : g9 ∉ Fb := fun hm => by have := ltb g9 hm; omega
  have geb' : ∀ b ∈ Fb, w.heap.size ≤ b := fun b hb => Nat.le_trans f2.size (geb b hb)
  refine ⟨NC1 w n g9 ga gb xs Fb, NCM1 n, ⟨0, z0, Fa, rfl, Nat.zero_le _, by omega, rfl, na3.below b4, rnet_new t4, nb.below b4, fun b hb => Nat.le_trans f1.size (gea b hb), fun hm => by have := lta3 g9 hm; omega, fun b hb hm => by have := geb b hb; have := lta b hm; omega⟩, ?_⟩
  rintro b12 i13 A14 n15 n16 i17 i18 i19 i20 i21 i22 w5 f5 ⟨k, s, Fa, rfl, hk, hk40, hs, na5, y5, nb5, gea, a9, dba⟩ t5
  have fin : (k = n ∨ k = 40) → _ := fun he => ncopies_two (A14 := A14) (n15 := n15) (n16 := n16) (b12 := b12) (i17 := i17) (i18 := i18) (i19 := i19) (i20 := i20) (i21 := i21) (i22 := i22) f5 hX h hs ⟨hk, hk40, he⟩ na5 nb5 (y5.more (by omega)) gea geb' hg9 (fun b hb hm => dba b hm hb) a9 b9
  refine ⟨fun hlt => ⟨fun h40 => ?_, fun h40 => fin (.inr (by omega))⟩, fun hge => fin (.inl (by omega))⟩
  obtain ⟨p, o, A1, n1, c1, rfl, hok, hc, hf⟩ := op_get (hx f5) k (by omega)
  refine ⟨by omega, hlt, p, o, rfl, _, _, _, A1, n1, c1, hc, fun _ => ?_⟩
  refine (does_c na5 y5 a9 (ok := fun b => b < w.heap.size) (fun b hb h => by have := gea b hb; omega) (by omega) hf (by omega) _ _ _).mono ?_
  rintro e w6 ⟨rfl, F', n6, y6, u6, d6⟩
  obtain ⟨A2, m2, c2, t0', t1', t2', t3', t4', t5', th1, hm1, -⟩ := y6.told
  have gea9 : ∀ b ∈ g9 :: Fa, w.heap.size ≤ b := by
    intro b hb
    rcases List.mem_cons.1 hb with rfl | hb
    · exact hg9
    · exact gea b hb
  have hb' : ∀ b ∈ Fb, b ∉ g9 :: Fa := fun b hb hm => by
    rcases List.mem_cons.1 hm with rfl | hm
    · exact b9 hb
    · exact dba b hb hm
  refine ⟨true, A2, m2, c2, t0', t1', t2', t3', t4', t5', rfl, ⟨up_fr f5 u6 gea9, mild_nil u6.fr.size⟩, th1, (fun h => by cases h), fun _ => ⟨⟨k + 1, _, F', by rw [wrap_in (by omega)]; rfl, by omega, by omega, by rw [opsV_step z0 xs k (by omega), ← hs], n6, y6, nb5.past u6 hb' (loud2 na5 y5), fun b hb => up_ge u6 gea9 f5.size b (by simp [hb]), d6, ?_⟩, ?_⟩⟩
  · exact fun b hb hm => apart_up u6 nb5.lt hb' b hb (by simp [hm])
  · unfold NCM1
    rw [wrap_in (by omega)]
    omega
end Go.Proofs.Ytdjjfpcfclheiaa
