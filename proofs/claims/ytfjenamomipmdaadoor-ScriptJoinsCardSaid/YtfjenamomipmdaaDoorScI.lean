/- Script: slices.Chunk's iterator. -/
import Derived.RangeFuncNested
import Derived.RangeFuncBound
import Derived.RangeFuncCalls
import Derived.RangeFuncLeaves
import Derived.RangeFuncBox
import Derived.RangeFuncFrom
import Derived.Shelf.Abstract
import Derived.WalkKit
import Derived.OwnWalkIn
import Derived.TacticsInMore
import Derived.LoopNIn
import Derived.LoopIn
import Derived.BigRegionIn
import Derived.Lib.MinMax
import Derived.Lib.Builder
import Derived.Test.YtfjenamomipmdaaDoorProg
set_option linter.unusedVariables false
namespace Go.Proofs.YtfjenamomipmdaaDoor
open Go Go.RowKit Go.Shelf Go.Proofs
attribute [local go_sem] Oper.semAt_some
theorem cut_at {F : Fence} {n : Nat} {P : Program} {c : Code} {Q : Exit → Act → World → Prop} {a : Act} {w : World} (act : Act) (W : World) (h1 : c.wpIn F n P (fun e a' w' => e = .normal ∧ a' = act ∧ w' = W) a w) (h2 : Q .normal act W) : c.wpIn F n P Q a w :=
  wpIn_mono h1 (by rintro _ _ _ ⟨rfl, rfl, rfl⟩; exact h2)
/-- Two blocks stand as they stood. -/
def KG (g1 g2 : Nat) (A B : World) : Prop := B.heap[g1]? = A.heap[g1]? ∧ B.heap[g2]? = A.heap[g2]?
theorem KG.trans {g1 g2 : Nat} {A B C : World} (h : KG g1 g2 A B) (k : KG g1 g2 B C) : KG g1 g2 A C := ⟨k.1.trans h.1, k.2.trans h.2⟩
theorem fin_take (m k : Nat) (h : k < m) : (List.finRange m).take (k + 1) = (List.finRange m).take k ++ [⟨k, h⟩] := by
  rw [List.take_add_one, List.getElem?_eq_getElem (by simpa using h)]
  simp
set_option maxRecDepth 100000 in
set_option maxHeartbeats 2000000 in
theorem chunk1_in (F : Fence) (n : Nat) (h : F.fn 104) (hro : F.round = none) (hn : 1 ≤ n) (l Bs Bn b off m cap : Nat) (hcap : 2 * m ≤ cap) (hm0 : m ≤ 100000) (hcm : cap ≤ 9223372036854775807) (J Jx : List (Fin m) → World → Prop) (hJd : ∀ pre A, J pre A → J pre A.drew)
    (hY : ∀ pre x W, J pre W → pre.length < m → YieldAt F (n - 1) Tryd.prog l #[.slice (some ⟨b, off + 2 * x.val, none⟩) 2 2] W fun e W' =>
      (e = .returned (.bool true) ∧ J (pre ++ [x]) W' ∧ KG Bs Bn W W') ∨ (e = .returned (.bool false) ∧ Jx (pre ++ [x]) W'))
    (W : World) (hBs : W.heap[Bs]? = some (.cells #[.slice (some ⟨b, off, none⟩) (2 * m) cap] 22 (0, 0))) (hBn : W.heap[Bn]? = some (.cells #[.int .i64 2] 3 (0, 0))) (h0 : J [] W) :
    CallsIn F n Tryd.prog 104 #[.func (.yield l) #[] #[], .pointer (some ⟨Bs, 0, none⟩), .pointer (some ⟨Bn, 0, none⟩)] W fun e W' => (∃ v, e = .returned v) ∧
      ((∃ ys, ys = List.finRange m ∧ J ys W') ∨ (∃ pre, (∃ k, k ≤ m ∧ pre = (List.finRange m).take k) ∧ Jx pre W')) := by
  refine callsIn_of_wp Tryd.func104 rfl h ?_ hro
  simp only [Tryd.ntmps104, List.size_toArray, List.length_cons, List.length_nil, Nat.reduceAdd, Nat.reduceSub, Array.replicate_succ, Array.replicate_zero, List.push_toArray, List.append_toArray, List.nil_append, List.cons_append]
  have hc0 : W.cell? ⟨Bs, 0, none⟩ = some (.slice (some ⟨b, off, none⟩) (2 * m) cap) := by rw [Lib.cell_of_heap hBs]; rfl
  gi_wp2
  gi_loopw [4] (fun i wr => ∃ k : Nat, k ≤ m ∧ i = .int .i64 ((2 * k : Nat) : Int) ∧ J ((List.finRange m).take k) wr ∧ KG Bs Bn W wr)
    (fun i _ => 2 * m - (intOf i).toNat)
  case atStart => exact ⟨0, Nat.zero_le _, rfl, h0, rfl, rfl⟩
  case round =>
    obtain ⟨k, hk, rfl, hJs, hnx⟩ := hrel
    have hc1 : wr.cell? ⟨Bs, 0, none⟩ = some (.slice (some ⟨b, off, none⟩) (2 * m) cap) := by rw [Lib.cell_of_heap (hnx.1.trans hBs)]; rfl
    have hc2 : wr.cell? ⟨Bn, 0, none⟩ = some (.int .i64 2) := by rw [Lib.cell_of_heap (hnx.2.trans hBn)]; rfl
    by_cases hlt : k < m
    · obtain ⟨fn, tmps, assign, body, hy, hR⟩ := hY _ ⟨k, hlt⟩ wr.drew (hJd _ _ hJs) (by rw [List.length_take]; simp; omega)
      have hmin : min (2 : Int) ((2 * m - 2 * k : Nat) : Int) = 2 := by omega
      dsimp only at hy
      gi_wp2
      apply cut_at (W := wr.drew)
      case h1 =>
        gi_region
        all_goals exact ⟨rfl, rfl, rfl⟩
      gi_wp2
      refine hR.mono ?_
      rintro e W3 (⟨rfl, hJ3, hk3⟩ | ⟨rfl, hJx3⟩)
      · have hk4 : KG Bs Bn W W3 := hnx.trans hk3
        have hd2 : W3.cell? ⟨Bn, 0, none⟩ = some (.int .i64 2) := by rw [Lib.cell_of_heap (hk4.2.trans hBn)]; rfl
        gi_wp2
        go_roundw
        case rel => exact ⟨k + 1, by omega, by simp; omega, by rw [fin_take m k hlt]; exact hJ3, hk4⟩
        case measure => simp [intOf]; omega
      · gi_wp2
        refine bodyPost_ret (results_none rfl _ _ _) rfl ?_
        exact ⟨⟨_, rfl⟩, .inr ⟨_, ⟨k + 1, by omega, (fin_take m k hlt).symm⟩, hJx3⟩⟩
    · obtain rfl : k = m := by omega
      gi_wp2
      go_end0
      exact ⟨⟨_, rfl⟩, .inl ⟨_, rfl, by rw [List.take_of_length_le (by simp)] at hJs; exact hJs⟩⟩
end Go.Proofs.YtfjenamomipmdaaDoor
