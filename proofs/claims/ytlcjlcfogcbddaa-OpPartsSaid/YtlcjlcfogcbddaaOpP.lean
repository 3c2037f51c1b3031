/- The law OpParts. -/
import Derived.Test.YtlcjlcfogcbddaaOpJ
import Derived.Test.YtlcjlcfogcbddaaLaw09b
set_option linter.unusedSimpArgs false
set_option linter.unusedVariables false
namespace Go.Proofs.Ytlcjlcfogcbddaa
open Go Go.RowKit Go.Proofs Go.Trc Go.Sx

/-- How 'many' grows. -/
def PI (w : World) (N gx : Nat) (G : List Nat) (o : OpV) (u : Value) (zs : List OpV) (i : Int) (A : Option Addr) (n c : Nat) (w' : World) : Prop :=
  N ≤ gx ∧ ∃ k : Nat, i = k ∧ k ≤ 7 ∧ Rw none w w.heap.size 29 w' (.slice A n c) (List.replicate k o) G ∧ (∀ b, tail (.slice A n c) = some b → N ≤ b) ∧ Sl w' (fun b => b < N) u zs
def PM (i : Int) (A : Option Addr) (n c : Nat) (w' : World) : Nat := (7 - i).toNat

set_option maxHeartbeats 4000000 in
theorem parts_end3 {w w5 : World} {A6 A21 : Option Addr} {n7 n8 n22 n23 g25 g24 g17 g4 N at_ : Nat} {xs zs : List OpV} (f5 : Fr (fun _ => False) w w5) (s6 : Sl w5 (fun b => b < w.heap.size) (.slice A6 n7 n8) xs) (hat : at_ < xs.length) (hg25 : w.heap.size ≤ g25) 
    (hall : ∀ o ∈ xs, mayV o = 0) (hmay : mayEditV zs = 3) (hne : ¬ zs = xs) :
∀ i26 : Int, ∀ A27 : Option Addr, ∀ n28 : Nat, ∀ n29 : Nat, ∀ w11 : World, Go.Sx.Fr (fun _ => False) w w11 → PI w N g25 [g25,g24,g17,g4] xs[at_] (.slice A21 n22 n23) zs i26 A27 n28 n29 w11 → w11.heap[g25]? = some (.cells #[.slice A27 n28 n29] 38 (0, 0)) → 
      ((i26 < (7 : Int) →
      (
       ((0 : Int) ≤ (at_ : Int) ∧ (at_ : Int) < (n7 : Int) ∧ ∃ p31 : Nat, ∃ o32 : Nat, A6 = some ⟨p31, o32, none⟩ ∧
       (∀ w12 : World, Go.Sx.Fr (fun _ => False) w w12 → Below w11.heap.size w11 w12 → ∃ i33 : Int, ∃ i34 : Int, ∃ i35 : Int, ∃ i36 : Int, ∃ i37 : Int, ∃ i38 : Int, ∃ i39 : Int, ∃ i40 : Int, ∃ i41 : Int, ∃ i42 : Int, ∃ i43 : Int, ∃ i44 : Int, ∃ i45 : Int, ∃ i46 : Int, ∃ i47 : Int, ∃ i48 : Int, ∃ i49 : Int, ∃ b50 : Bool, ∃ s51 : ByteArray, ∃ i52 : Int, Go.Sx.CellsAt w12 p31 (o32 + ((at_ : Int)).toNat * 20 + 0) [.int .i64 i33, .int .i64 i34, .int .i64 i35, .int .i64 i36, .int .i64 i37, .int .i64 i38, .int .i64 i39, .int .i64 i40, .int .i64 i41, .int .i64 i42, .int .i64 i43, .int .i64 i44, .int .i64 i45, .int .i64 i46, .int .i64 i47, .int .i64 i48, .int .i64 i49, .bool b50, .string s51, .int .i64 i52] ∧ (p31 < w11.heap.size ∧ p31 ∉ []) ∧ 
       ∀ g53 : Nat, w.heap.size ≤ g53 → (∀ w13 : World, Go.Sx.Fr (fun _ => False) w w13 → Below w12.heap.size w12 w13 → w12.heap.size ≤ g53 → w13.heap[g53]? = some (.cells #[.int .i64 i33, .int .i64 i34, .int .i64 i35, .int .i64 i36, .int .i64 i37, .int .i64 i38, .int .i64 i39, .int .i64 i40, .int .i64 i41, .int .i64 i42, .int .i64 i43, .int .i64 i44, .int .i64 i45, .int .i64 i46, .int .i64 i47, .int .i64 i48, .int .i64 i49, .bool b50, .string s51, .int .i64 i52] 29 (0, 0)) → 
       ∃ w14 : World, ∃ A54 : Option Addr, ∃ n55 : Nat, ∃ n56 : Nat, (Builtin.append_ #[36, 36] 36 #[(.slice A27 n28 n29), (.slice (some ⟨g53, 0, none⟩) 1 1)]).run Try.prog w13 = .ok (.slice A54 n55 n56) w14 ∧ (Go.Sx.Fr (fun _ => False) w w14 ∧ Go.Sx.Mild [g53, g25, g24, g17, g4] w13 w14) ∧ 
       (∀ w15 : World, Go.Sx.Fr (fun _ => False) w w15 → Go.Sx.Fr (fun b => b ∈ [g25]) w14 w15 → PI w N g25 [g25,g24,g17,g4] xs[at_] (.slice A21 n22 n23) zs (IntKind.i64.wrap (i26 + (1 : Int))) A54 n55 n56 w15 ∧ PM (IntKind.i64.wrap (i26 + (1 : Int))) A54 n55 n56 w15 < PM i26 A27 n28 n29 w11)))))) ∧
      ((7 : Int) ≤ i26 →
      ((true = true →
       ((0 : Int) ≤ (at_ : Int) ∧ (at_ : Int) < (n7 : Int) ∧ ∃ p30 : Nat, ∃ o31 : Nat, A6 = some ⟨p30, o31, none⟩ ∧
        (∃ i32 : Int, ∃ i33 : Int, ∃ i34 : Int, ∃ i35 : Int, ∃ i36 : Int, ∃ i37 : Int, ∃ i38 : Int, ∃ i39 : Int, ∃ i40 : Int, ∃ i41 : Int, ∃ i42 : Int, ∃ i43 : Int, ∃ i44 : Int, ∃ i45 : Int, ∃ i46 : Int, ∃ i47 : Int, ∃ i48 : Int, ∃ b49 : Bool, ∃ s50 : ByteArray, ∃ i51 : Int, Go.Sx.CellsAt w11 p30 (o31 + ((at_ : Int)).toNat * 20 + 0) [.int .i64 i32, .int .i64 i33, .int .i64 i34, .int .i64 i35, .int .i64 i36, .int .i64 i37, .int .i64 i38, .int .i64 i39, .int .i64 i40, .int .i64 i41, .int .i64 i42, .int .i64 i43, .int .i64 i44, .int .i64 i45, .int .i64 i46, .int .i64 i47, .int .i64 i48, .bool b49, .string s50, .int .i64 i51] ∧ 
        (
        Calls Try.prog 10 #[(.agg #[.int .i64 i32, .int .i64 i33, .int .i64 i34, .int .i64 i35, .int .i64 i36, .int .i64 i37, .int .i64 i38, .int .i64 i39, .int .i64 i40, .int .i64 i41, .int .i64 i42, .int .i64 i43, .int .i64 i44, .int .i64 i45, .int .i64 i46, .int .i64 i47, .int .i64 i48, .bool b49, .string s50, .int .i64 i51])] w11 fun r w12 => ∃ i52 : Int, r = .returned (.int .i64 i52) ∧ (Go.Sx.Fr (fun _ => False) w w12 ∧ Go.Sx.Mild [g25, g24, g17, g4] w11 w12) ∧ 
        ((i52 = (0 : Int) →
        (
         Calls Try.prog 12 #[(.agg #[.slice A21 n22 n23])] w12 fun r w13 => ∃ i53 : Int, r = .returned (.int .i64 i53) ∧ (Go.Sx.Fr (fun _ => False) w w13 ∧ Go.Sx.Mild [g25, g24, g17, g4] w12 w13) ∧ 
         ((i53 = (3 : Int) →
         (
          Calls Try.prog 12 #[(.agg #[.slice A27 n28 n29])] w13 fun r w14 => ∃ i54 : Int, r = .returned (.int .i64 i54) ∧ (Go.Sx.Fr (fun _ => False) w w14 ∧ Go.Sx.Mild [g25, g24, g17, g4] w13 w14) ∧ 
          ((i54 = (3 : Int) →
          (
           Calls Try.prog 14 #[(.agg #[.slice A21 n22 n23]), (.agg #[.slice A6 n7 n8])] w14 fun r w15 => ∃ b55 : Bool, r = .returned (.bool b55) ∧ (Go.Sx.Fr (fun _ => False) w w15 ∧ Go.Sx.Mild [g25, g24, g17, g4] w14 w15) ∧ 
           ((b55 = false →
           (
            Calls Try.prog 14 #[(.agg #[.slice A6 n7 n8]), (.agg #[.slice A6 n7 n8])] w15 fun r w16 => ∃ b56 : Bool, r = .returned (.bool b56) ∧ (Go.Sx.Fr (fun _ => False) w w16 ∧ Go.Sx.Mild [g25, g24, g17, g4] w15 w16) ∧ 
            ((Ret (.bool true) w) (.returned (.bool b56)) w16))) ∧
           (b55 = true →
           ((Ret (.bool true) w) (.returned (.bool false)) w15))))) ∧
          (¬ i54 = (3 : Int) →
          ((Ret (.bool true) w) (.returned (.bool false)) w14))))) ∧
         (¬ i53 = (3 : Int) →
         ((Ret (.bool true) w) (.returned (.bool false)) w13))))) ∧
        (¬ i52 = (0 : Int) →
        ((Ret (.bool true) w) (.returned (.bool false)) w12))))))) ∧
       (true = false →
       ((Ret (.bool true) w) (.returned (.bool false)) w11)))))
  := by
  rintro i26 A27 n28 n29 w11 f11 ⟨hN, k, rfl, hk7, r, htl, sz⟩ t25
  have s6' : ∀ {w'}, Fr (fun _ => False) w w' → Sl w' (fun b => b < w.heap.size) (.slice A6 n7 n8) xs := fun f => s6.same f5 f
  have hlen := s6.len
  obtain ⟨p, o, rfl, hp, hpw, hwf, hc⟩ := Sl.cells (s6' f11) at_ hat
  have hpos : (at_ : Int) < (n7 : Int) := by omega
  refine ⟨fun hlt => ⟨by omega, hpos, p, o, rfl, fun w12 f12 b12 => ⟨_, _, _, _, _, _, _, _, _, _, _, _, _, _, _, _, _, _, _, _, (s6' f12).at_k at_ hat, ⟨hpw, by simp⟩, ?_⟩⟩, fun hge => ⟨fun _ => ⟨by omega, hpos, p, o, rfl, _, _, _, _, _, _, _, _, _, _, _, _, _, _, _, _, _, _, _, _, hc, ?_⟩, fun h => by cases h⟩⟩
  · intro g53 hg53 w13 f13 b13 lo53 t53
    have z12 := b12.size
    have z13 := b13.size
    have r13 := (r.below b12).on b13 [g53] (by simp only [List.mem_singleton]; rintro _ rfl; exact ⟨lo53, heap_lt t53⟩)
    obtain ⟨w14, A54, n55, n56, hr, m, r14, gr, ob, tl⟩ := r13.append2 36 36 (.agg OpV.zero.cells) 168 Try.underlying36 (by kernel_rfl) rfl (arg_cells [xs[at_]] 1 rfl t53 (by decide) (by intro x hx; simp only [List.mem_singleton] at hx; subst hx; exact hwf)) (by simp; omega) (by simp; omega)
    refine ⟨w14, A54, n55, n56, hr, ⟨fr_none m.1, m.2⟩, fun w15 f15 q15 => ?_⟩
    have t25' : w14.heap[g25]? = some (.cells #[.slice A27 n28 n29] 38 (0, 0)) := (m.2.2 g25 (by simp) (by have := heap_lt t25; omega)).trans ((b13.block g25 (by have := heap_lt t25; omega)).trans ((b12.block g25 (heap_lt t25)).trans t25))
    have ne := own_ne' r14.own t25' (by decide)
    have hN13 : N ≤ w13.heap.size := Nat.le_trans hN (Nat.le_trans (Nat.le_of_lt (heap_lt t25)) (Nat.le_trans z12 z13))
    rw [wrap_in (by omega)]
    refine ⟨⟨hN, k + 1, rfl, by omega, ?_, ?_, ?_⟩, ?_⟩
    · rw [List.replicate_succ']
      exact (r14.past q15 hg25 ne).less' (by intro g hg; simp only [List.mem_append]; exact .inr hg)
    · intro b hb
      rcases tl b hb with h | h
      · exact htl b h
      · omega
    · have s13 := (sz.below b12).below b13
      have s14 : Sl w14 (fun b => b < N) (.slice A21 n22 n23) zs := s13.grown gr fun b hb hh => by have := htl b hh.symm; omega
      exact s14.past q15 (by intro g hg; simp only [List.mem_singleton] at hg; subst hg; omega)
    · show (7 - ((k : Int) + 1)).toNat < (7 - (k : Int)).toNat; omega
  · obtain rfl : k = 7 := by omega
    refine (may_c w11 xs[at_] hwf.1).mono ?_
    rintro e w12 ⟨rfl, b12⟩
    have f12 := f11.step b12
    refine ⟨_, rfl, ok_ret b12 f11, fun _ => ?_, fun h => absurd (hall _ (List.getElem_mem hat)) h⟩
    refine (mayEdit_c w12 _ A21 n22 n23 _ (sz.below b12)).mono ?_
    rintro e w13 ⟨rfl, b13⟩
    have f13 := f12.step b13
    refine ⟨_, rfl, ok_ret b13 f12, fun _ => ?_, fun h => absurd hmay h⟩
    refine (mayEdit_c w13 _ A27 n28 n29 _ ((r.sl.below b12).below b13)).mono ?_
    rintro e w14 ⟨rfl, b14⟩
    have f14 := f13.step b14
    have h7 : mayEditV (List.replicate 7 xs[at_]) = 3 := by unfold mayEditV; rw [if_pos (.inr (by simp))]
    refine ⟨_, rfl, ok_ret b14 f13, fun _ => ?_, fun h => absurd h7 h⟩
    refine (same_c (((sz.below b12).below b13).below b14) (s6' f14)).mono ?_
    rintro e w15 ⟨rfl, b15⟩
    have f15 := f14.step b15
    refine ⟨_, rfl, ok_ret b15 f14, fun _ => ?_, fun h => absurd (of_decide_eq_true h) hne⟩
    refine (same_c (s6' f15) (s6' f15)).mono ?_
    rintro e w16 ⟨rfl, b16⟩
    exact ⟨_, rfl, ok_ret b16 f15, ret_leaf (f15.step b16) (by simp)⟩
set_option maxHeartbeats 4000000 in
theorem parts_end0 {w w5 : World} {A6 A21 : Option Addr} {n7 n8 n22 n23 g25 g24 g17 g4 N at_ : Nat} {xs zs : List OpV} (f5 : Fr (fun _ => False) w w5) (s6 : Sl w5 (fun b => b < w.heap.size) (.slice A6 n7 n8) xs) (hat : at_ < xs.length) (hg25 : w.heap.size ≤ g25) 
    (hall : ∀ o ∈ xs, mayV o = 0) (hmay : mayEditV zs = 0) (hne : ¬ zs = xs) :
∀ i26 : Int, ∀ A27 : Option Addr, ∀ n28 : Nat, ∀ n29 : Nat, ∀ w11 : World, Go.Sx.Fr (fun _ => False) w w11 → PI w N g25 [g25,g24,g17,g4] xs[at_] (.slice A21 n22 n23) zs i26 A27 n28 n29 w11 → w11.heap[g25]? = some (.cells #[.slice A27 n28 n29] 38 (0, 0)) → 
      ((i26 < (7 : Int) →
      (
       ((0 : Int) ≤ (at_ : Int) ∧ (at_ : Int) < (n7 : Int) ∧ ∃ p31 : Nat, ∃ o32 : Nat, A6 = some ⟨p31, o32, none⟩ ∧
       (∀ w12 : World, Go.Sx.Fr (fun _ => False) w w12 → Below w11.heap.size w11 w12 → ∃ i33 : Int, ∃ i34 : Int, ∃ i35 : Int, ∃ i36 : Int, ∃ i37 : Int, ∃ i38 : Int, ∃ i39 : Int, ∃ i40 : Int, ∃ i41 : Int, ∃ i42 : Int, ∃ i43 : Int, ∃ i44 : Int, ∃ i45 : Int, ∃ i46 : Int, ∃ i47 : Int, ∃ i48 : Int, ∃ i49 : Int, ∃ b50 : Bool, ∃ s51 : ByteArray, ∃ i52 : Int, Go.Sx.CellsAt w12 p31 (o32 + ((at_ : Int)).toNat * 20 + 0) [.int .i64 i33, .int .i64 i34, .int .i64 i35, .int .i64 i36, .int .i64 i37, .int .i64 i38, .int .i64 i39, .int .i64 i40, .int .i64 i41, .int .i64 i42, .int .i64 i43, .int .i64 i44, .int .i64 i45, .int .i64 i46, .int .i64 i47, .int .i64 i48, .int .i64 i49, .bool b50, .string s51, .int .i64 i52] ∧ (p31 < w11.heap.size ∧ p31 ∉ []) ∧ 
       ∀ g53 : Nat, w.heap.size ≤ g53 → (∀ w13 : World, Go.Sx.Fr (fun _ => False) w w13 → Below w12.heap.size w12 w13 → w12.heap.size ≤ g53 → w13.heap[g53]? = some (.cells #[.int .i64 i33, .int .i64 i34, .int .i64 i35, .int .i64 i36, .int .i64 i37, .int .i64 i38, .int .i64 i39, .int .i64 i40, .int .i64 i41, .int .i64 i42, .int .i64 i43, .int .i64 i44, .int .i64 i45, .int .i64 i46, .int .i64 i47, .int .i64 i48, .int .i64 i49, .bool b50, .string s51, .int .i64 i52] 29 (0, 0)) → 
       ∃ w14 : World, ∃ A54 : Option Addr, ∃ n55 : Nat, ∃ n56 : Nat, (Builtin.append_ #[36, 36] 36 #[(.slice A27 n28 n29), (.slice (some ⟨g53, 0, none⟩) 1 1)]).run Try.prog w13 = .ok (.slice A54 n55 n56) w14 ∧ (Go.Sx.Fr (fun _ => False) w w14 ∧ Go.Sx.Mild [g53, g25, g24, g17, g4] w13 w14) ∧ 
       (∀ w15 : World, Go.Sx.Fr (fun _ => False) w w15 → Go.Sx.Fr (fun b => b ∈ [g25]) w14 w15 → PI w N g25 [g25,g24,g17,g4] xs[at_] (.slice A21 n22 n23) zs (IntKind.i64.wrap (i26 + (1 : Int))) A54 n55 n56 w15 ∧ PM (IntKind.i64.wrap (i26 + (1 : Int))) A54 n55 n56 w15 < PM i26 A27 n28 n29 w11)))))) ∧
      ((7 : Int) ≤ i26 →
      ((true = true →
       ((0 : Int) ≤ (at_ : Int) ∧ (at_ : Int) < (n7 : Int) ∧ ∃ p30 : Nat, ∃ o31 : Nat, A6 = some ⟨p30, o31, none⟩ ∧
        (∃ i32 : Int, ∃ i33 : Int, ∃ i34 : Int, ∃ i35 : Int, ∃ i36 : Int, ∃ i37 : Int, ∃ i38 : Int, ∃ i39 : Int, ∃ i40 : Int, ∃ i41 : Int, ∃ i42 : Int, ∃ i43 : Int, ∃ i44 : Int, ∃ i45 : Int, ∃ i46 : Int, ∃ i47 : Int, ∃ i48 : Int, ∃ b49 : Bool, ∃ s50 : ByteArray, ∃ i51 : Int, Go.Sx.CellsAt w11 p30 (o31 + ((at_ : Int)).toNat * 20 + 0) [.int .i64 i32, .int .i64 i33, .int .i64 i34, .int .i64 i35, .int .i64 i36, .int .i64 i37, .int .i64 i38, .int .i64 i39, .int .i64 i40, .int .i64 i41, .int .i64 i42, .int .i64 i43, .int .i64 i44, .int .i64 i45, .int .i64 i46, .int .i64 i47, .int .i64 i48, .bool b49, .string s50, .int .i64 i51] ∧ 
        (
        Calls Try.prog 10 #[(.agg #[.int .i64 i32, .int .i64 i33, .int .i64 i34, .int .i64 i35, .int .i64 i36, .int .i64 i37, .int .i64 i38, .int .i64 i39, .int .i64 i40, .int .i64 i41, .int .i64 i42, .int .i64 i43, .int .i64 i44, .int .i64 i45, .int .i64 i46, .int .i64 i47, .int .i64 i48, .bool b49, .string s50, .int .i64 i51])] w11 fun r w12 => ∃ i52 : Int, r = .returned (.int .i64 i52) ∧ (Go.Sx.Fr (fun _ => False) w w12 ∧ Go.Sx.Mild [g25, g24, g17, g4] w11 w12) ∧ 
        ((i52 = (0 : Int) →
        (
         Calls Try.prog 12 #[(.agg #[.slice A21 n22 n23])] w12 fun r w13 => ∃ i53 : Int, r = .returned (.int .i64 i53) ∧ (Go.Sx.Fr (fun _ => False) w w13 ∧ Go.Sx.Mild [g25, g24, g17, g4] w12 w13) ∧ 
         ((i53 = (0 : Int) →
         (
          Calls Try.prog 12 #[(.agg #[.slice A27 n28 n29])] w13 fun r w14 => ∃ i54 : Int, r = .returned (.int .i64 i54) ∧ (Go.Sx.Fr (fun _ => False) w w14 ∧ Go.Sx.Mild [g25, g24, g17, g4] w13 w14) ∧ 
          ((i54 = (3 : Int) →
          (
           Calls Try.prog 14 #[(.agg #[.slice A21 n22 n23]), (.agg #[.slice A6 n7 n8])] w14 fun r w15 => ∃ b55 : Bool, r = .returned (.bool b55) ∧ (Go.Sx.Fr (fun _ => False) w w15 ∧ Go.Sx.Mild [g25, g24, g17, g4] w14 w15) ∧ 
           ((b55 = false →
           (
            Calls Try.prog 14 #[(.agg #[.slice A6 n7 n8]), (.agg #[.slice A6 n7 n8])] w15 fun r w16 => ∃ b56 : Bool, r = .returned (.bool b56) ∧ (Go.Sx.Fr (fun _ => False) w w16 ∧ Go.Sx.Mild [g25, g24, g17, g4] w15 w16) ∧ 
            ((Ret (.bool true) w) (.returned (.bool b56)) w16))) ∧
           (b55 = true →
           ((Ret (.bool true) w) (.returned (.bool false)) w15))))) ∧
          (¬ i54 = (3 : Int) →
          ((Ret (.bool true) w) (.returned (.bool false)) w14))))) ∧
         (¬ i53 = (0 : Int) →
         ((Ret (.bool true) w) (.returned (.bool false)) w13))))) ∧
        (¬ i52 = (0 : Int) →
        ((Ret (.bool true) w) (.returned (.bool false)) w12))))))) ∧
       (true = false →
       ((Ret (.bool true) w) (.returned (.bool false)) w11)))))
  := by
  rintro i26 A27 n28 n29 w11 f11 ⟨hN, k, rfl, hk7, r, htl, sz⟩ t25
  have s6' : ∀ {w'}, Fr (fun _ => False) w w' → Sl w' (fun b => b < w.heap.size) (.slice A6 n7 n8) xs := fun f => s6.same f5 f
  have hlen := s6.len
  obtain ⟨p, o, rfl, hp, hpw, hwf, hc⟩ := Sl.cells (s6' f11) at_ hat
  have hpos : (at_ : Int) < (n7 : Int) := by omega
  refine ⟨fun hlt => ⟨by omega, hpos, p, o, rfl, fun w12 f12 b12 => ⟨_, _, _, _, _, _, _, _, _, _, _, _, _, _, _, _, _, _, _, _, (s6' f12).at_k at_ hat, ⟨hpw, by simp⟩, ?_⟩⟩, fun hge => ⟨fun _ => ⟨by omega, hpos, p, o, rfl, _, _, _, _, _, _, _, _, _, _, _, _, _, _, _, _, _, _, _, _, hc, ?_⟩, fun h => by cases h⟩⟩
  · intro g53 hg53 w13 f13 b13 lo53 t53
    have z12 := b12.size
    have z13 := b13.size
    have r13 := (r.below b12).on b13 [g53] (by simp only [List.mem_singleton]; rintro _ rfl; exact ⟨lo53, heap_lt t53⟩)
    obtain ⟨w14, A54, n55, n56, hr, m, r14, gr, ob, tl⟩ := r13.append2 36 36 (.agg OpV.zero.cells) 168 Try.underlying36 (by kernel_rfl) rfl (arg_cells [xs[at_]] 1 rfl t53 (by decide) (by intro x hx; simp only [List.mem_singleton] at hx; subst hx; exact hwf)) (by simp; omega) (by simp; omega)
    refine ⟨w14, A54, n55, n56, hr, ⟨fr_none m.1, m.2⟩, fun w15 f15 q15 => ?_⟩
    have t25' : w14.heap[g25]? = some (.cells #[.slice A27 n28 n29] 38 (0, 0)) := (m.2.2 g25 (by simp) (by have := heap_lt t25; omega)).trans ((b13.block g25 (by have := heap_lt t25; omega)).trans ((b12.block g25 (heap_lt t25)).trans t25))
    have ne := own_ne' r14.own t25' (by decide)
    have hN13 : N ≤ w13.heap.size := Nat.le_trans hN (Nat.le_trans (Nat.le_of_lt (heap_lt t25)) (Nat.le_trans z12 z13))
    rw [wrap_in (by omega)]
    refine ⟨⟨hN, k + 1, rfl, by omega, ?_, ?_, ?_⟩, ?_⟩
    · rw [List.replicate_succ']
      exact (r14.past q15 hg25 ne).less' (by intro g hg; simp only [List.mem_append]; exact .inr hg)
    · intro b hb
      rcases tl b hb with h | h
      · exact htl b h
      · omega
    · have s13 := (sz.below b12).below b13
      have s14 : Sl w14 (fun b => b < N) (.slice A21 n22 n23) zs := s13.grown gr fun b hb hh => by have := htl b hh.symm; omega
      exact s14.past q15 (by intro g hg; simp only [List.mem_singleton] at hg; subst hg; omega)
    · show (7 - ((k : Int) + 1)).toNat < (7 - (k : Int)).toNat; omega
  · obtain rfl : k = 7 := by omega
    refine (may_c w11 xs[at_] hwf.1).mono ?_
    rintro e w12 ⟨rfl, b12⟩
    have f12 := f11.step b12
    refine ⟨_, rfl, ok_ret b12 f11, fun _ => ?_, fun h => absurd (hall _ (List.getElem_mem hat)) h⟩
    refine (mayEdit_c w12 _ A21 n22 n23 _ (sz.below b12)).mono ?_
    rintro e w13 ⟨rfl, b13⟩
    have f13 := f12.step b13
    refine ⟨_, rfl, ok_ret b13 f12, fun _ => ?_, fun h => absurd hmay h⟩
    refine (mayEdit_c w13 _ A27 n28 n29 _ ((r.sl.below b12).below b13)).mono ?_
    rintro e w14 ⟨rfl, b14⟩
    have f14 := f13.step b14
    have h7 : mayEditV (List.replicate 7 xs[at_]) = 3 := by unfold mayEditV; rw [if_pos (.inr (by simp))]
    refine ⟨_, rfl, ok_ret b14 f13, fun _ => ?_, fun h => absurd h7 h⟩
    refine (same_c (((sz.below b12).below b13).below b14) (s6' f14)).mono ?_
    rintro e w15 ⟨rfl, b15⟩
    have f15 := f14.step b15
    refine ⟨_, rfl, ok_ret b15 f14, fun _ => ?_, fun h => absurd (of_decide_eq_true h) hne⟩
    refine (same_c (s6' f15) (s6' f15)).mono ?_
    rintro e w16 ⟨rfl, b16⟩
    exact ⟨_, rfl, ok_ret b16 f15, ret_leaf (f15.step b16) (by simp)⟩

theorem parts_law {xs : List OpV} {k : Nat} (hk : k < xs.length) (h1 : mayEditV xs = 0) : ¬ (xs.take k ++ xs.drop (k + 1)) = xs ∧ (((xs.take k ++ xs.drop (k + 1)).length = 0 → mayEditV (xs.take k ++ xs.drop (k + 1)) = 3) ∧ (¬ (xs.take k ++ xs.drop (k + 1)).length = 0 → mayEditV (xs.take k ++ xs.drop (k + 1)) = 0)) := by
  obtain ⟨a1, a2⟩ := mayEdit_zero.1 h1
  have hl : (xs.take k ++ xs.drop (k + 1)).length = xs.length - 1 := by simp; omega
  refine ⟨fun h => ?_, fun h => ?_, fun h => ?_⟩
  · have := congrArg List.length h
    omega
  · unfold mayEditV; rw [if_pos (.inl h)]
  · refine mayEdit_zero.2 ⟨⟨by omega, by omega⟩, fun o ho => ?_⟩
    rcases List.mem_append.1 ho with ho | ho
    · exact a2 o (List.mem_of_mem_take ho)
    · exact a2 o (List.mem_of_mem_drop ho)
theorem past_typed' {w w' : World} {base g : Nat} {e t : TypeId} {v : Value} {zs : List OpV} {C : Array Value} {fr : Nat × Nat} (h : OwnF w base e v zs) (hg : w.heap[g]? = some (.cells C t fr)) (ht : t ≠ e) (q : Fr (fun b => b ∈ [g]) w w') : Sl w' (fun b => b < w.heap.size) v zs := by
  have h1 := Sl.bound (OwnF.sl_ne h (own_ne' h hg ht))
  exact h1.mono fun b hb hl => ⟨hb.2, q.block b hl (by simp only [List.mem_singleton]; exact hb.1)⟩
set_option maxHeartbeats 8000000 in
theorem opParts_wk {w : World} {A : Option Addr} {n c : Nat} {xs : List OpV} (h : Sl w (fun b => b < w.heap.size) (.slice A n c) xs) (i : Int) (hi : -9223372036854775808 ≤ i ∧ i ≤ 9223372036854775807) :
    Calls Try.prog 5 #[.agg #[.slice A n c], .int .i64 i] w (Ret (.bool true) w) := by
  refine opParts_sx _ (fun _ => False) w A n c i ?_
  intro g4 hg4 w1 f1 b1 lo4 t4
  have l4 := heap_lt t4
  refine (shown_c w1).mono ?_
  rintro e w2 ⟨rfl, b2⟩
  have f2 := f1.step b2
  refine ⟨_, rfl, ok_ret b2 f1, ?_⟩
  refine (few_c (h.below (fr_below f2))).mono ?_
  rintro e w3 ⟨n7, rfl, hn3, s3, b3⟩
  have f3 := f2.step b3
  refine ⟨A, n7, c, rfl, ok_ret b3 f2, fun w4 f4 q4 => ?_⟩
  have s4 := s3.same f2 f4
  clear s3 h
  generalize xs.take 10 = xs at s4
  refine (mayEdit_c w4 _ A n7 c _ s4).mono ?_
  rintro e w5 ⟨rfl, b5⟩
  have f5 := f4.step b5
  refine ⟨_, rfl, ok_ret b5 f4, fun _ => ret_leaf f5 rfl, fun hm => ⟨fun _ => ret_leaf f5 rfl, fun h0 => ⟨fun _ => ret_leaf f5 rfl, fun hlt => ?_⟩⟩⟩
  have s6 := s4.same f4 f5
  have hx := s6.len
  obtain ⟨at_, rfl⟩ : ∃ k : Nat, i = k := ⟨i.toNat, by omega⟩
  have hat : at_ < xs.length := by omega
  obtain ⟨hxl, hall⟩ := mayEdit_zero.1 hm
  have pl := parts_law hat hm
  have z5 : w1.heap.size ≤ w5.heap.size := Nat.le_trans b2.size (Nat.le_trans b3.size (Nat.le_trans q4.size b5.size))
  intro w6 f6 b6
  obtain ⟨hs1, s11⟩ := cut_hi (P := Try.prog) 36 29 Try.underlying36 rfl (k := at_) s6 (by omega)
  obtain ⟨A14, hs2, s14⟩ := cut_lo (P := Try.prog) 36 29 Try.underlying36 rfl rfl (k := at_ + 1) s6 (by omega)
  have hw1 : IntKind.i64.wrap ((at_ : Int) + 1) = ((at_ + 1 : Nat) : Int) := by rw [wrap_in (by omega)]; rfl
  rw [hw1]
  have z6 := b6.size
  refine ⟨_, _, _, fun w' _ => hs1 w', _, _, _, fun w' _ => hs2 w', fun g17 hg17 => ⟨fun w7 f7 b7 lo17 t17 => ?_, fun g18 hg18 w7 f7 b7 lo18 t18 lo17 t17 => ?_⟩, fun g17 hg17 g18 hg18 w7 f7 b7 lo18 t18 lo17 t17 => ?_⟩
  · have z7 := b7.size
    have r0 : Rw none w w.heap.size 29 w7 (.slice (some ⟨g17, 0, none⟩) 0 0) ([] : List OpV) [g17,g4] := Rw.first f7 hg17 t17 (by
      intro g hg
      simp only [List.mem_cons, List.not_mem_nil, or_false] at hg
      rcases hg with rfl|rfl <;> first|exact heap_lt t17|omega)
    obtain ⟨wb, A19, n20, n21, hr, m, r1, gr, -, tl⟩ := r0.append2 36 36 (.agg OpV.zero.cells) 168 Try.underlying36 (by kernel_rfl) rfl (s11.same f5 f7).arg (by simp only [List.length_nil, List.length_take]; omega) (by simp only [List.length_nil, List.length_take]; omega)
    rw [tail_full] at gr
    have bb := below_of_grown gr
    have fb := fr_none m.1
    refine ⟨wb, A19, n20, n21, hr, ⟨fb, m.2⟩, keep_below bb ((b6.trans (b7.mono b6.size)).size), ?_⟩
    have lx : ([] ++ xs.take at_).length ≤ 10 := by simp; omega
    have zb := bb.size
    refine ⟨?_, fun g22 hg22 wc fc bc lo22 t22 => ?_⟩
    · skip
      obtain ⟨wd, A22, n23, n24, hr2, m2, r2⟩ := (r1).append 36 36 (.agg OpV.zero.cells) 168 Try.underlying36 (by kernel_rfl) rfl (s14.same f5 fb).arg (by simp only [List.length_drop]; omega) (by simp only [List.length_drop]; omega)
      have fd := fr_none m2.1
      refine ⟨wd, A22, n23, n24, hr2, ⟨fd, m2.2⟩, ?_⟩
      have hz : n23 = (xs.take at_ ++ xs.drop (at_ + 1)).length := r2.sl.len
      have zd := m2.2.1
      intro g24 hg24
      refine ⟨fun hlt g25 hg25 => ⟨PI w wd.heap.size g25 [g25,g24,g17,g4] xs[at_] (.slice A22 n23 n24) (xs.take at_ ++ xs.drop (at_ + 1)), PM, fun we fe be lo25 t25 lo24 t24 => ⟨lo25, 0, rfl, by omega, Rw.nil fe (names4 (heap_lt t25) (heap_lt t24) (Nat.lt_of_lt_of_le (heap_lt t17) (by have:=be.size;omega)) (by have:=be.size;omega)), (fun b hb => by cases hb), r2.sl.here.below be⟩, parts_end3 f5 s6 hat hg25 hall (pl.2.1 (by omega)) pl.1⟩,
        fun hle g25 hg25 => ⟨PI w wd.heap.size g25 [g25,g24,g17,g4] xs[at_] (.slice A22 n23 n24) (xs.take at_ ++ xs.drop (at_ + 1)), PM, fun we fe be lo25 t25 lo24 t24 => ⟨lo25, 0, rfl, by omega, Rw.nil fe (names4 (heap_lt t25) (heap_lt t24) (Nat.lt_of_lt_of_le (heap_lt t17) (by have:=be.size;omega)) (by have:=be.size;omega)), (fun b hb => by cases hb), r2.sl.here.below be⟩, parts_end0 f5 s6 hat hg25 hall (pl.2.2 (by omega)) pl.1⟩⟩
    · have r1c := r1.on bc [g22] (by simp only [List.mem_singleton]; rintro _ rfl; exact ⟨lo22, heap_lt t22⟩)
      have zc := bc.size
      obtain ⟨wd, A22, n23, n24, hr2, m2, r2⟩ := (r1c).append 36 36 (.agg OpV.zero.cells) 168 Try.underlying36 (by kernel_rfl) rfl (s14.same f5 fc).arg (by simp only [List.length_drop]; omega) (by simp only [List.length_drop]; omega)
      have fd := fr_none m2.1
      refine ⟨wd, A22, n23, n24, hr2, ⟨fd, m2.2⟩, ?_⟩
      have hz : n23 = (xs.take at_ ++ xs.drop (at_ + 1)).length := r2.sl.len
      have zd := m2.2.1
      have t22' : wd.heap[g22]? = some (.cells #[.slice none 0 0] 38 (0, 0)) := (m2.2.2 g22 (by simp) (heap_lt t22)).trans t22
      refine ⟨fun hlt g25 hg25 => ⟨PI w wd.heap.size g25 [g25,g22,g17,g4] xs[at_] (.slice A22 n23 n24) (xs.take at_ ++ xs.drop (at_ + 1)), PM, fun we fe qe lo25 t25 => ⟨lo25, 0, rfl, by omega, Rw.nil fe (names4 (heap_lt t25) (Nat.lt_of_lt_of_le (heap_lt t22') qe.size) (Nat.lt_of_lt_of_le (heap_lt t17) (by have:=qe.size;omega)) (by have:=qe.size;omega)), (fun b hb => by cases hb), (past_typed' r2.own t22' (by decide) qe)⟩, parts_end3 f5 s6 hat hg25 hall (pl.2.1 (by omega)) pl.1⟩,
        fun hle g25 hg25 => ⟨PI w wd.heap.size g25 [g25,g22,g17,g4] xs[at_] (.slice A22 n23 n24) (xs.take at_ ++ xs.drop (at_ + 1)), PM, fun we fe qe lo25 t25 => ⟨lo25, 0, rfl, by omega, Rw.nil fe (names4 (heap_lt t25) (Nat.lt_of_lt_of_le (heap_lt t22') qe.size) (Nat.lt_of_lt_of_le (heap_lt t17) (by have:=qe.size;omega)) (by have:=qe.size;omega)), (fun b hb => by cases hb), (past_typed' r2.own t22' (by decide) qe)⟩, parts_end0 f5 s6 hat hg25 hall (pl.2.2 (by omega)) pl.1⟩⟩
  · have z7 := b7.size
    have r0 : Rw none w w.heap.size 29 w7 (.slice (some ⟨g17, 0, none⟩) 0 0) ([] : List OpV) [g18,g17,g4] := Rw.first f7 hg17 t17 (by
      intro g hg
      simp only [List.mem_cons, List.not_mem_nil, or_false] at hg
      rcases hg with rfl|rfl|rfl <;> first|exact heap_lt t17|exact heap_lt t18|omega)
    obtain ⟨wb, A19, n20, n21, hr, m, r1, gr, -, tl⟩ := r0.append2 36 36 (.agg OpV.zero.cells) 168 Try.underlying36 (by kernel_rfl) rfl (s11.same f5 f7).arg (by simp only [List.length_nil, List.length_take]; omega) (by simp only [List.length_nil, List.length_take]; omega)
    rw [tail_full] at gr
    have bb := below_of_grown gr
    have fb := fr_none m.1
    refine ⟨wb, A19, n20, n21, hr, ⟨fb, m.2⟩, keep_below bb ((b6.trans (b7.mono b6.size)).size), ?_⟩
    have lx : ([] ++ xs.take at_).length ≤ 10 := by simp; omega
    have zb := bb.size
    obtain ⟨wd, A22, n23, n24, hr2, m2, r2⟩ := (r1).append 36 36 (.agg OpV.zero.cells) 168 Try.underlying36 (by kernel_rfl) rfl (s14.same f5 fb).arg (by simp only [List.length_drop]; omega) (by simp only [List.length_drop]; omega)
    have fd := fr_none m2.1
    refine ⟨wd, A22, n23, n24, hr2, ⟨fd, m2.2⟩, ?_⟩
    have hz : n23 = (xs.take at_ ++ xs.drop (at_ + 1)).length := r2.sl.len
    have zd := m2.2.1
    have t18' : wd.heap[g18]? = some (.cells #[.slice none 0 0] 38 (0, 0)) := (m2.2.2 g18 (by simp) (Nat.lt_of_lt_of_le (heap_lt t18) zb)).trans ((m.2.2 g18 (by simp) (heap_lt t18)).trans t18)
    refine ⟨fun hlt g25 hg25 => ⟨PI w wd.heap.size g25 [g25,g18,g17,g4] xs[at_] (.slice A22 n23 n24) (xs.take at_ ++ xs.drop (at_ + 1)), PM, fun we fe qe lo25 t25 => ⟨lo25, 0, rfl, by omega, Rw.nil fe (names4 (heap_lt t25) (Nat.lt_of_lt_of_le (heap_lt t18') qe.size) (Nat.lt_of_lt_of_le (heap_lt t17) (by have:=qe.size;omega)) (by have:=qe.size;omega)), (fun b hb => by cases hb), (past_typed' r2.own t18' (by decide) qe)⟩, parts_end3 f5 s6 hat hg25 hall (pl.2.1 (by omega)) pl.1⟩,
      fun hle g25 hg25 => ⟨PI w wd.heap.size g25 [g25,g18,g17,g4] xs[at_] (.slice A22 n23 n24) (xs.take at_ ++ xs.drop (at_ + 1)), PM, fun we fe qe lo25 t25 => ⟨lo25, 0, rfl, by omega, Rw.nil fe (names4 (heap_lt t25) (Nat.lt_of_lt_of_le (heap_lt t18') qe.size) (Nat.lt_of_lt_of_le (heap_lt t17) (by have:=qe.size;omega)) (by have:=qe.size;omega)), (fun b hb => by cases hb), (past_typed' r2.own t18' (by decide) qe)⟩, parts_end0 f5 s6 hat hg25 hall (pl.2.2 (by omega)) pl.1⟩⟩
  · have z7 := b7.size
    have r0 : Rw none w w.heap.size 29 w7 (.slice (some ⟨g18, 0, none⟩) 0 0) ([] : List OpV) [g18,g17,g4] := Rw.first f7 hg18 t18 (by
      intro g hg
      simp only [List.mem_cons, List.not_mem_nil, or_false] at hg
      rcases hg with rfl|rfl|rfl <;> first|exact heap_lt t17|exact heap_lt t18|omega)
    obtain ⟨wb, A19, n20, n21, hr, m, r1, gr, -, tl⟩ := r0.append2 36 36 (.agg OpV.zero.cells) 168 Try.underlying36 (by kernel_rfl) rfl (s11.same f5 f7).arg (by simp only [List.length_nil, List.length_take]; omega) (by simp only [List.length_nil, List.length_take]; omega)
    rw [tail_full] at gr
    have bb := below_of_grown gr
    have fb := fr_none m.1
    refine ⟨wb, A19, n20, n21, hr, ⟨fb, m.2⟩, keep_below bb ((b6.trans (b7.mono b6.size)).size), ?_⟩
    have lx : ([] ++ xs.take at_).length ≤ 10 := by simp; omega
    have zb := bb.size
    obtain ⟨wd, A22, n23, n24, hr2, m2, r2⟩ := (r1).append 36 36 (.agg OpV.zero.cells) 168 Try.underlying36 (by kernel_rfl) rfl (s14.same f5 fb).arg (by simp only [List.length_drop]; omega) (by simp only [List.length_drop]; omega)
    have fd := fr_none m2.1
    refine ⟨wd, A22, n23, n24, hr2, ⟨fd, m2.2⟩, ?_⟩
    have hz : n23 = (xs.take at_ ++ xs.drop (at_ + 1)).length := r2.sl.len
    have zd := m2.2.1
    have t17' : wd.heap[g17]? = some (.cells #[.slice none 0 0] 38 (0, 0)) := (m2.2.2 g17 (by simp) (Nat.lt_of_lt_of_le (heap_lt t17) zb)).trans ((m.2.2 g17 (by simp) (heap_lt t17)).trans t17)
    refine ⟨fun hlt g25 hg25 => ⟨PI w wd.heap.size g25 [g25,g18,g17,g4] xs[at_] (.slice A22 n23 n24) (xs.take at_ ++ xs.drop (at_ + 1)), PM, fun we fe qe lo25 t25 => ⟨lo25, 0, rfl, by omega, Rw.nil fe (names4 (heap_lt t25) (Nat.lt_of_lt_of_le (heap_lt t18) (by have:=qe.size;omega)) (Nat.lt_of_lt_of_le (heap_lt t17') qe.size) (by have:=qe.size;omega)), (fun b hb => by cases hb), (past_typed' r2.own t17' (by decide) qe)⟩, parts_end3 f5 s6 hat hg25 hall (pl.2.1 (by omega)) pl.1⟩,
      fun hle g25 hg25 => ⟨PI w wd.heap.size g25 [g25,g18,g17,g4] xs[at_] (.slice A22 n23 n24) (xs.take at_ ++ xs.drop (at_ + 1)), PM, fun we fe qe lo25 t25 => ⟨lo25, 0, rfl, by omega, Rw.nil fe (names4 (heap_lt t25) (Nat.lt_of_lt_of_le (heap_lt t18) (by have:=qe.size;omega)) (Nat.lt_of_lt_of_le (heap_lt t17') qe.size) (by have:=qe.size;omega)), (fun b hb => by cases hb), (past_typed' r2.own t17' (by decide) qe)⟩, parts_end0 f5 s6 hat hg25 hall (pl.2.2 (by omega)) pl.1⟩⟩
theorem opParts_walk (w : World) (v1 : Value) (xs : List OpV) (h1 : Rep.K w (fun b => b < w.heap.size) xs v1.cells.toList) (z1 : ∃ cs : Array Value, v1 = .agg cs) (i : Int) (hi : -9223372036854775808 ≤ i ∧ i ≤ 9223372036854775807) :
    Calls Try.prog 5 #[v1, .int .i64 i] w fun e w' => e = .returned (.bool true) ∧ Below w.heap.size w w' := by
  obtain ⟨A, n, c, rfl, s⟩ := edit_of h1 z1
  exact opParts_wk s i hi
end Go.Proofs.Ytlcjlcfogcbddaa
