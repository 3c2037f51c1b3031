/- Script: line. -/
import Derived.Test.YtfjenamomipmdaaDoorScI
import Derived.Test.YtfjenamomipmdaaDoorScN
import Derived.Test.YtfjenamomipmdaaDoorScA
import Derived.Test.YtfjenamomipmdaaDoorSpC
import Derived.Maps.AppendAt
import Derived.Test.YtfjenamomipmdaaDoorAgg
import Derived.Stop.RegionWithIn
set_option linter.unusedSimpArgs false
set_option linter.unusedVariables false
namespace Go.Proofs.YtfjenamomipmdaaDoor
open Go Go.RowKit Go.Shelf Go.Proofs Go.Trc
attribute [local go_sem] Oper.semAt_some
theorem chunk_c (w : World) (A : Option Addr) (n c : Nat) : Calls Tryd.prog 84 #[.slice A n c, .int .i64 2] w fun e w' =>
    ∃ g1 g2, e = .returned (.func (.func 104) #[] #[.pointer (some ⟨g1, 0, none⟩), .pointer (some ⟨g2, 0, none⟩)]) ∧ w.heap.size ≤ g1 ∧ w.heap.size ≤ g2 ∧
      w'.heap[g1]? = some (.cells #[.slice A n c] 22 (0, 0)) ∧ w'.heap[g2]? = some (.cells #[.int .i64 2] 3 (0, 0)) ∧ Below w.heap.size w w' := by
  refine chunk_sx _ (fun _ => False) w A n c 2 ?_
  intro g4 hg4 g5 hg5
  refine ⟨fun h => absurd h (by decide), fun _ w1 f1 b1 lo5 t5 lo4 t4 => ⟨_, rfl, g4, g5, rfl, hg4, hg5, t4, t5, b1⟩⟩
theorem chunk_stops (F : Fence) (n : Nat) (h : F.fn 104) (hro : F.round = none) (hn : 1 ≤ n) (g1 g2 b off m cap : Nat) (hcap : 2 * m ≤ cap) (hm0 : m ≤ 100000) (hcm : cap ≤ 9223372036854775807) (w : World)
    (t1 : w.heap[g1]? = some (.cells #[.slice (some ⟨b, off, none⟩) (2 * m) cap] 22 (0, 0))) (t2 : w.heap[g2]? = some (.cells #[.int .i64 2] 3 (0, 0))) :
    SeqStopsK F n Tryd.prog 104 #[.pointer (some ⟨g1, 0, none⟩), .pointer (some ⟨g2, 0, none⟩)] (fun x : Fin m => #[Value.slice (some ⟨b, off + 2 * x.val, none⟩) 2 2]) (KG g1 g2)
      (fun ys => ys = List.finRange m) (fun pre => ∃ k, k ≤ m ∧ pre = (List.finRange m).take k) m w := fun l J Jx W hW hJ _ hY h0 =>
  chunk1_in F n h hro hn l g1 g2 b off m cap hcap hm0 hcm J Jx (fun pre A hA => hJ pre A _ none hA ⟨rfl, rfl, rfl, Nat.le_refl _, fun _ _ _ => rfl⟩ (fun r e => by cases e)) hY W
    ((hW.block g1 (heap_lt t1)).trans t1) ((hW.block g2 (heap_lt t2)).trans t2) h0
theorem conv_b (W : World) (xs : List UInt8) (hl : xs.length ≤ 9223372036854775807) : ∃ W4 cap C fz, (convert 9 22 (.string ⟨xs.toArray⟩)).run Tryd.prog W = .ok (.slice (some ⟨W.heap.size, 0, none⟩) xs.length cap) W4 ∧ xs.length ≤ cap ∧ cap ≤ 9223372036854775807 ∧
    W4.heap[W.heap.size]? = some (.cells C 5 fz) ∧ (∀ j (hj : j < xs.length), C[j]? = some (.int .u8 (xs[j].toNat : Int))) ∧ W4.heap.size = W.heap.size + 1 ∧ Below W.heap.size W W4 := by
  have hr := run_bytes_of_string (P := Tryd.prog) W 9 22 5 ⟨xs.toArray⟩ Tryd.underlying9 Tryd.underlying22 Tryd.underlying5
  have hss : (⟨xs.toArray⟩ : ByteArray).size = xs.length := by show xs.toArray.size = _; simp
  rw [hss] at hr
  refine ⟨_, _, _, _, hr, grownCap_ge W xs.length 0 5, grownCap_le_maxLen W xs.length 0 5 hl, heap_alloc_new W.drew _, fun j hj => ?_, by simp, ⟨rfl, rfl, rfl, by simp, fun k hk => Below.heap_alloc W.drew _ k hk⟩⟩
  have := bytesRow_at ⟨xs.toArray⟩ (grownCap W xs.length 0 5) j (by simpa using hj)
  rw [this]
  simp
def dx (c : UInt8) : Int := Lib.indexByte [48, 49, 50, 51, 52, 53, 54, 55, 56, 57, 97, 98, 99, 100, 101, 102] c
/-- The two digits of a place. -/
def hiD (xs : List UInt8) (m : Nat) (x : Fin m) : Int := dx ((xs[2 * x.val]?).getD 0)
def loD (xs : List UInt8) (m : Nat) (x : Fin m) : Int := dx ((xs[2 * x.val + 1]?).getD 0)
def goodD (xs : List UInt8) (m : Nat) (pre : List (Fin m)) : Prop := ∀ x ∈ pre, 0 ≤ hiD xs m x ∧ 0 ≤ loD xs m x
def decD (xs : List UInt8) (m : Nat) (pre : List (Fin m)) : List UInt8 := pre.map fun x => u8 (hiD xs m x * 16 + loD xs m x)
open Classical in
noncomputable def lineE (xs : List UInt8) (m : Nat) : StepV × Int := if goodD xs m (List.finRange m) then takeS (decD xs m (List.finRange m)) else (zeroS, 240)
theorem cells_kept {A B : World} {row : Option Nat} {b : Nat} {C : Array Value} {t : TypeId} {fz : Nat × Nat} (h : A.heap[b]? = some (.cells C t fz)) (hg : A.grownBy B row) (hr : ∀ r, row = some r → ∃ o : Obj, A.heap[r]? = some o ∧ o.isCells = false) : B.heap[b]? = some (.cells C t fz) := by
  refine (hg.block b (heap_lt h) fun e => ?_).trans h
  obtain ⟨o, ho, hc⟩ := hr b e.symm
  rw [h] at ho
  injection ho with ho
  subst ho
  cases hc
theorem infoU8 : (Tryd.prog.info? 5).map (fun i => (i.zero, i.size, i.bytes)) = some (some (.int .u8 0), 1, 1) := by kernel_rfl
abbrev bv (x : UInt8) : Value := .int .u8 (x.toNat : Int)
theorem owns_less {W : World} {n1 n0 : Nat} {e : TypeId} {v : Value} {k : Nat} {ys : List Value} (h : W.ownsRow n1 e 1 v k ys) (hn : n0 ≤ n1) : W.ownsRow n0 e 1 v k ys := by
  rcases h with ⟨h1, h2 | ⟨g, cap, cur, hv, hb, r⟩⟩
  · exact ⟨h1, .inl h2⟩
  · exact ⟨h1, .inr ⟨g, cap, cur, hv, Nat.le_trans hn hb, r⟩⟩
theorem owns_not {W : World} {n1 b : Nat} {e : TypeId} {v : Value} {k : Nat} {ys : List Value} (h : W.ownsRow n1 e 1 v k ys) (hb : b < n1) : some b ≠ v.ownBlock := by
  rcases h with ⟨h1, ⟨rfl, _⟩ | ⟨g, cap, cur, rfl, hg, r⟩⟩
  · simp [Value.ownBlock]
  · simp only [Value.ownBlock, ne_eq, Option.some.injEq]; omega
theorem line_step {W w1 : World} {n1 B : Nat} {v v' : Value} {k j : Nat} {ys ys' : List Value} {tmp : Obj} (hv : Boxed W B 22 v) (hrow : W.ownsRow n1 5 1 v k ys) (hn1 : n1 ≤ W.heap.size)
    (hown' : w1.ownsRow n1 5 1 v' j ys') (hgrow : (W.alloc tmp).grownBy w1 v.ownBlock) :
    Boxed (w1.setCell ⟨B, 0, none⟩ v') B 22 v' ∧ (w1.setCell ⟨B, 0, none⟩ v').ownsRow n1 5 1 v' j ys' ∧ KeepsOthers W (w1.setCell ⟨B, 0, none⟩ v') ∧
      (∀ b, b < W.heap.size → b ≠ B → some b ≠ v.ownBlock → (w1.setCell ⟨B, 0, none⟩ v').heap[b]? = W.heap[b]?) ∧ Below 0 W (w1.setCell ⟨B, 0, none⟩ v') := by
  obtain ⟨hv1, hv2, -, hk, hb⟩ := hv.appended (by decide) (owns_less hrow (Nat.zero_le _)) (Nat.zero_le _) (Nat.zero_le _) (owns_less hown' (Nat.zero_le _)) hgrow
  refine ⟨hv2, hown'.kept (grownBy_setCell' w1 B v') (.inr (hv1.not_row (by decide) (owns_less hown' (Nat.zero_le _))).symm), hk, fun b hlt hne hnr => ?_, hb⟩
  rw [(grownBy_setCell' w1 B v').block b (Nat.lt_of_lt_of_le hlt (Nat.le_trans (by simp) hgrow.size)) (by simpa using hne), hgrow.block b (by simp; omega) hnr]
  exact heap_alloc_old W tmp b hlt
set_option maxRecDepth 100000 in
theorem or_dig {hi lo : Int} (h1 : 0 ≤ hi) (h2 : hi < 16) (h3 : 0 ≤ lo) (h4 : lo < 16) : bits BinOp.or IntKind.i64 (wrap64 (hi * 16)) lo % 256 = ((u8 (hi * 16 + lo)).toNat : Int) := by
  have key : ∀ a b : Fin 16, bits BinOp.or IntKind.i64 (wrap64 ((a.val : Int) * 16)) (b.val : Int) % 256 = ((u8 ((a.val : Int) * 16 + (b.val : Int))).toNat : Int) := by decide +kernel
  have := key ⟨hi.toNat, by omega⟩ ⟨lo.toNat, by omega⟩
  rw [Int.toNat_of_nonneg h1, Int.toNat_of_nonneg h3] at this
  exact this
set_option maxRecDepth 100000 in
theorem dx_lt (c : UInt8) : Lib.indexByte [48, 49, 50, 51, 52, 53, 54, 55, 56, 57, 97, 98, 99, 100, 101, 102] c < 16 := by
  have key : ∀ a : Fin 256, Lib.indexByte [48, 49, 50, 51, 52, 53, 54, 55, 56, 57, 97, 98, 99, 100, 101, 102] (UInt8.ofNat a.val) < 16 := by decide
  have := key ⟨c.toNat, c.toNat_lt⟩
  rwa [UInt8.ofNat_toNat] at this
/-- The two results are stored. -/
theorem two_stores {W : World} {a b : Nat} {u0 u1 u2 u3 u4 v0 v1 v2 v3 v4 e e' : Value} {t t' : TypeId} (h2 : W.heap[a]? = some (.cells #[u0, u1, u2, u3, u4] t (0, 0))) (h3 : W.heap[b]? = some (.cells #[e] t' (0, 0))) (hab : a ≠ b) {W' : World}
    (hW : W' = ((((((W.setCell ⟨a, 0, none⟩ v0).setCell ⟨a, 1, none⟩ v1).setCell ⟨a, 2, none⟩ v2).setCell ⟨a, 3, none⟩ v3).setCell ⟨a, 4, none⟩ v4).setCell ⟨b, 0, none⟩ e')) :
    W'.heap[a]? = some (.cells #[v0, v1, v2, v3, v4] t (0, 0)) ∧ W'.heap[b]? = some (.cells #[e'] t' (0, 0)) ∧ (∀ k, k ≠ a → k ≠ b → W'.heap[k]? = W.heap[k]?) ∧ KeepsOthers W W' ∧ ∀ B, B ≤ a → B ≤ b → Below B W W' := by
  subst hW
  have s0 := heap_setCell_same W a 0 _ t v0 h2
  have s1 := heap_setCell_same _ a 1 _ t v1 s0
  have s2 := heap_setCell_same _ a 2 _ t v2 s1
  have s3 := heap_setCell_same _ a 3 _ t v3 s2
  have s4 := heap_setCell_same _ a 4 _ t v4 s3
  refine ⟨?_, ?_, fun k h1 h2 => ?_, ?_, fun B hA hB => ?_⟩
  · rw [heap_setCell_other _ _ _ _ hab, s4]; rfl
  · have := heap_setCell_same (((((W.setCell ⟨a, 0, none⟩ v0).setCell ⟨a, 1, none⟩ v1).setCell ⟨a, 2, none⟩ v2).setCell ⟨a, 3, none⟩ v3).setCell ⟨a, 4, none⟩ v4) b 0 #[e] t' e' (by
      rw [heap_setCell_other _ _ _ _ hab.symm, heap_setCell_other _ _ _ _ hab.symm, heap_setCell_other _ _ _ _ hab.symm, heap_setCell_other _ _ _ _ hab.symm, heap_setCell_other _ _ _ _ hab.symm]; exact h3)
    rw [this]; rfl
  · rw [heap_setCell_other _ _ _ _ h2, heap_setCell_other _ _ _ _ h1, heap_setCell_other _ _ _ _ h1, heap_setCell_other _ _ _ _ h1, heap_setCell_other _ _ _ _ h1, heap_setCell_other _ _ _ _ h1]
  · exact (((((KeepsOthers.setCell _ _ _).trans (KeepsOthers.setCell _ _ _)).trans (KeepsOthers.setCell _ _ _)).trans (KeepsOthers.setCell _ _ _)).trans (KeepsOthers.setCell _ _ _)).trans (KeepsOthers.setCell _ _ _)
  · exact ((((((Below.refl B W).setCell (p := ⟨a, 0, none⟩) hA _).setCell (p := ⟨a, 1, none⟩) hA _).setCell (p := ⟨a, 2, none⟩) hA _).setCell (p := ⟨a, 3, none⟩) hA _).setCell (p := ⟨a, 4, none⟩) hA _).setCell (p := ⟨b, 0, none⟩) hB _
theorem two_stores' {W : World} {a b : Nat} {u0 u1 u2 u3 u4 e : Value} {t t' : TypeId} (h2 : W.heap[a]? = some (.cells #[u0, u1, u2, u3, u4] t (0, 0))) (h3 : W.heap[b]? = some (.cells #[e] t' (0, 0))) (hab : a ≠ b) (v0 v1 v2 v3 v4 e' : Value) :
    ∃ X : World, X = ((((((W.setCell ⟨a, 0, none⟩ v0).setCell ⟨a, 1, none⟩ v1).setCell ⟨a, 2, none⟩ v2).setCell ⟨a, 3, none⟩ v3).setCell ⟨a, 4, none⟩ v4).setCell ⟨b, 0, none⟩ e') ∧
    X.drew.heap[a]? = some (.cells #[v0, v1, v2, v3, v4] t (0, 0)) ∧ X.drew.heap[b]? = some (.cells #[e'] t' (0, 0)) ∧ (∀ k, k ≠ a → k ≠ b → X.drew.heap[k]? = W.heap[k]?) ∧ KeepsOthers W X.drew ∧ ∀ B, B ≤ a → B ≤ b → Below B W X.drew := by
  obtain ⟨X, hX⟩ : ∃ X, X = ((((((W.setCell ⟨a, 0, none⟩ v0).setCell ⟨a, 1, none⟩ v1).setCell ⟨a, 2, none⟩ v2).setCell ⟨a, 3, none⟩ v3).setCell ⟨a, 4, none⟩ v4).setCell ⟨b, 0, none⟩ e') := ⟨_, rfl⟩
  obtain ⟨y1, y2, y3, y4, y5⟩ := two_stores h2 h3 hab hX
  exact ⟨X, hX, y1, y2, y3, y4.trans (KeepsOthers.drew X), fun B hA hB => (y5 B hA hB).drew⟩
theorem own_same {α : Type} [Rep α] [Flat α] {w w' : World} {base : Nat} {e : TypeId} {v : Value} {xs : List α} (o : OwnF w base e v xs) (h : ∀ g C t fz, base ≤ g → w.heap[g]? = some (.cells C t fz) → w'.heap[g]? = some (.cells C t fz)) : OwnF w' base e v xs := by
  obtain ⟨cs, ⟨h1, h2⟩, h3, h4⟩ := o
  refine ⟨cs, ⟨h1, ?_⟩, h3, fun j hj => Flat.flat (h4 j hj)⟩
  rcases h2 with h2 | ⟨g, cap, cur, hv, hb, hg, r⟩
  · exact .inl h2
  · exact .inr ⟨g, cap, cur, hv, hb, h g _ _ _ hb hg, r⟩
set_option maxRecDepth 100000 in
set_option maxHeartbeats 10000000 in
theorem line_c (w : World) (xs : List UInt8) (m : Nat) (hm : xs.length = 2 * m) (hl : xs.length ≤ 70000) :
    CallsIn Fence.wide 5 Tryd.prog 60 #[.string ⟨xs.toArray⟩] w (TakeSE w (lineE xs m)) := by
  have hro : Fence.wide.round = none := rfl
  have hs : (⟨xs.toArray⟩ : ByteArray).size = 2 * m := by show xs.toArray.size = _; simpa using hm
  refine callsIn_of_wp_marks Tryd.func60 rfl trivial ?_ hro
  simp only [Tryd.ntmps60, List.size_toArray, List.length_cons, List.length_nil, Nat.reduceAdd, Nat.reduceSub, Array.replicate_succ, Array.replicate_zero, List.push_toArray, List.append_toArray, List.nil_append, List.cons_append]
  obtain ⟨W4, cap, C, fz, hcv, hcap, hcm, tx, hC, hsz, b4⟩ := conv_b (((w.alloc (.cells #[.int .i64 0, .int .i64 0, .int .i64 0, .int .i64 0, .slice none 0 0] 54)).alloc (.cells #[.int .i64 0] 27)).alloc (.cells #[.slice none 0 0] 22)) xs (by omega)
  rw [hm] at hcv
  simp only [World.size_alloc] at hcv hsz tx
  gi_wp2_with (refine ⟨trivial, ?_⟩; gi_at_call 84; refine (callsIn_wide.2 (chunk_c _ _ _ _)).mono ?_; rintro e W5 ⟨g1, g2, rfl, hg1, hg2, t1, t2, hb⟩)
  have hb0 : w.heap.size ≤ W5.heap.size := by have := hb.size; omega
  have B5 : Below w.heap.size w W5 := (((((Below.refl _ w).alloc (Nat.le_refl _) _).alloc (by simp) _).alloc (by simp; omega) _).trans (b4.mono (by simp; omega))).trans (hb.mono (by omega))
  have e2 : W5.heap[w.heap.size]? = some (.cells #[.int .i64 0, .int .i64 0, .int .i64 0, .int .i64 0, .slice none 0 0] 54 (0, 0)) := (hb.block _ (by omega)).trans ((b4.block _ (by simp; omega)).trans ((heap_alloc_old _ _ _ (by simp; omega)).trans (heap_alloc1 w _ _)))
  have e3 : W5.heap[w.heap.size + 1]? = some (.cells #[.int .i64 0] 27 (0, 0)) := (hb.block _ (by omega)).trans ((b4.block _ (by simp)).trans ((heap_alloc_old _ _ _ (by simp)).trans (heap_alloc2 w _ _)))
  have e4 : Boxed W5 (w.heap.size + 1 + 1) 22 (.slice none 0 0) := (hb.block _ (by omega)).trans ((b4.block _ (by simp)).trans (by have := heap_alloc_new ((w.alloc (.cells #[.int .i64 0, .int .i64 0, .int .i64 0, .int .i64 0, .slice none 0 0] 54)).alloc (.cells #[.int .i64 0] 27)) (.cells #[.slice none 0 0] 22); simpa using this))
  have ex : W5.heap[w.heap.size + 1 + 1 + 1]? = some (.cells C 5 fz) := (hb.block _ (by omega)).trans tx
  refine wpIn_rangeFunc_ownF hro (by omega) (gf := 104) (lb := #[.pointer (some ⟨g1, 0, none⟩), .pointer (some ⟨g2, 0, none⟩)]) rfl trivial (enters_of Tryd.func104 (by kernel_rfl) rfl)
    (chunk_stops Fence.wide 4 trivial rfl (by omega) g1 g2 (w.heap.size + 1 + 1 + 1) 0 m cap (by omega) (by omega) hcm W5 t1 t2) KG.trans
    (fun W l o o' hl _ _ _ => ⟨World.putObj_heap_other (by have := heap_lt t1; omega), World.putObj_heap_other (by have := heap_lt t2; omega)⟩) (Below.refl _ _) (fun _ => rfl)
    (fun pre W => ((∃ v, Boxed W (w.heap.size + 1 + 1) 22 v ∧ W.ownsRow W4.heap.size 5 1 v (decD xs m pre).length ((decD xs m pre).map bv) ∧ goodD xs m pre) ∧ W.heap[w.heap.size + 1 + 1 + 1]? = some (.cells C 5 fz) ∧ W.heap[g1]? = some (.cells #[.slice (some ⟨w.heap.size + 1 + 1 + 1, 0, none⟩) (2 * m) cap] 22 (0, 0)) ∧ W.heap[g2]? = some (.cells #[.int .i64 2] 3 (0, 0)) ∧
      W.heap[w.heap.size]? = some (.cells #[.int .i64 0, .int .i64 0, .int .i64 0, .int .i64 0, .slice none 0 0] 54 (0, 0)) ∧ W.heap[w.heap.size + 1]? = some (.cells #[.int .i64 0] 27 (0, 0))) ∧ Below w.heap.size w W)
    (fun c pre W => (c = .ret ∧ ¬ goodD xs m pre ∧ W.heap[w.heap.size]? = some (.cells #[.int .i64 0, .int .i64 0, .int .i64 0, .int .i64 0, .slice none 0 0] 54 (0, 0)) ∧ W.heap[w.heap.size + 1]? = some (.cells #[.int .i64 240] 27 (0, 0))) ∧ Below w.heap.size w W)
    (OwnFrom.and (Own.from (fun s A B row hs hg hr => ⟨holdsRow_own W4.heap.size (w.heap.size + 1 + 1) 22 5 1 (fun pre => (decD xs m pre).length) (fun pre => (decD xs m pre).map bv) (fun pre _ => goodD xs m pre) s A B row hs.1 hg hr, cells_kept hs.2.1 hg hr, cells_kept hs.2.2.1 hg hr, cells_kept hs.2.2.2.1 hg hr, cells_kept hs.2.2.2.2.1 hg hr, cells_kept hs.2.2.2.2.2 hg hr⟩) _) (ownFrom_below (Nat.le_refl _) hb0))
    (fun c => OwnFrom.and (Own.from (fun s A B row hs hg hr => ⟨hs.1, hs.2.1, cells_kept hs.2.2.1 hg hr, cells_kept hs.2.2.2 hg hr⟩) _) (ownFrom_below (Nat.le_refl _) hb0))
    ⟨⟨⟨_, e4, World.ownsRow_nil _ _ _ _, fun x hx => by cases hx⟩, ex, t1, t2, e2, e3⟩, B5⟩
    (fun x => { tmps := #[.string ⟨xs.toArray⟩, undef, .pointer (some ⟨w.heap.size, 0, none⟩), .pointer (some ⟨w.heap.size + 1, 0, none⟩), .pointer (some ⟨w.heap.size + 1 + 1, 0, none⟩), .slice (some ⟨w.heap.size + 1 + 1 + 1, 2 * x.val, none⟩) 2 2, undef, undef, .string ⟨xs.toArray⟩, .int .i64 (2 * (m : Int)), .int .i64 0, .bool false, undef, .string ⟨xs.toArray⟩, .slice (some ⟨w.heap.size + 1 + 1 + 1, 0, none⟩) (2 * m) cap, .func (.func 104) #[] #[.pointer (some ⟨g1, 0, none⟩), .pointer (some ⟨g2, 0, none⟩)], .slice (some ⟨w.heap.size + 1 + 1 + 1, 2 * x.val, none⟩) 2 2,
      undef, undef, undef, undef, undef, undef, undef, undef, undef, undef, undef, undef, undef, undef, undef, undef, undef, undef, undef, undef, undef, undef, undef, undef, undef, undef, undef], defers := [] }) ?assign ?body ?done ?stop
  case assign =>
    intro l x W K hK
    gi_wp2
    exact hK
  case body =>
    rintro l pre x W ⟨⟨⟨v, hv, hrow, hgood⟩, hx, q1, q2, h2, h3⟩, hB⟩ hlt
    have hn1 : W4.heap.size ≤ W.heap.size := by have := heap_lt q1; omega
    have hpl : (decD xs m pre).length ≤ pre.length := by simp [decD]
    obtain ⟨i0, hi0, hz0, hz1, hz2⟩ := info_parts infoU8
    have hcb := hv.cell
    have hx2 := x.isLt
    have k0 : 2 * x.val < xs.length := by omega
    have k1 : 2 * x.val + 1 < xs.length := by omega
    have d0 : W.cell? ⟨w.heap.size + 1 + 1 + 1, 2 * x.val, none⟩ = some (.int .u8 (xs[2 * x.val].toNat : Int)) := by rw [Lib.cell_of_heap hx]; exact hC _ k0
    have d1 : W.cell? ⟨w.heap.size + 1 + 1 + 1, 2 * x.val + 1, none⟩ = some (.int .u8 (xs[2 * x.val + 1].toNat : Int)) := by rw [Lib.cell_of_heap hx]; exact hC _ k1
    gi_wp2
    apply cut_at (W := W.drew)
    case h1 =>
      gi_region_with (refine ⟨trivial, ?_⟩; gi_at_call 85; refine (CallsIn.inRound l (callsIn_wide.2 (Tryd.strings_IndexByte _ _ _))).mono ?_; rintro e w' ⟨rfl, rfl⟩)
      all_goals exact ⟨rfl, rfl, rfl⟩
    generalize hH : Lib.indexByte [48, 49, 50, 51, 52, 53, 54, 55, 56, 57, 97, 98, 99, 100, 101, 102] xs[2 * x.val] = hi
    generalize hL : Lib.indexByte [48, 49, 50, 51, 52, 53, 54, 55, 56, 57, 97, 98, 99, 100, 101, 102] xs[2 * x.val + 1] = lo
    have hHi : hiD xs m x = hi := by unfold hiD dx; rw [List.getElem?_eq_getElem k0]; exact hH
    have hLo : loD xs m x = lo := by unfold loD dx; rw [List.getElem?_eq_getElem k1]; exact hL
    have hcd : W.drew.cell? ⟨w.heap.size + 1 + 1, 0, none⟩ = some v := hcb
    by_cases hg : 0 ≤ hi ∧ 0 ≤ lo
    · obtain ⟨hg1, hg2⟩ := hg
      have hb1 : ¬ hi < 0 := by omega
      have hb2 : ¬ lo < 0 := by omega
      have hor := or_dig hg1 (hH ▸ dx_lt _) hg2 (hL ▸ dx_lt _)
      gi_wp2_with (gi_at_builtin; refine wpListIn_append_own _ rfl _ _ 22 rfl W4.heap.size 5 i0 (.int .u8 0) 1 1 Tryd.underlying22 hi0 hz0 hz1 hz2 rfl (by decide) _ _ _ rfl (hrow.alloc _) ⟨W.heap.size, 0, none⟩ 1 1 [bv (u8 (hi * 16 + lo))] rfl rfl (cell_one_new _ _ _) (by simp [Value.oneCell']) (by unfold maxLen; omega) (by omega) (by simp; omega) ?_; intro v' w1 hown' hgrow0 _; obtain ⟨g', cap', rfl⟩ := ownsRow_succ hown'; have hgrow : (W.alloc (.cells #[bv (u8 (hi * 16 + lo))] 5)).grownBy w1 v.ownBlock := ⟨hgrow0.os, hgrow0.tape, hgrow0.output, hgrow0.size, hgrow0.block⟩; obtain ⟨r1, r2, r3, r4, r5⟩ := line_step hv hrow hn1 hown' hgrow; have hv1 : Boxed w1 (w.heap.size + 1 + 1) 22 v := (hv.alloc _).kept hgrow (owns_not hrow (by omega)); have hc1 := hv1.cell; have hf1 := hv1.frozen)
      have z1 : g1 ≠ w.heap.size + 1 + 1 := by omega
      have z2 : g2 ≠ w.heap.size + 1 + 1 := by omega
      have u1 := r4 g1 (heap_lt q1) z1 (Boxed.not_row (W := W) (B := g1) q1 (by decide) hrow)
      have u2 := r4 g2 (heap_lt q2) z2 (Boxed.not_row (W := W) (B := g2) q2 (by decide) hrow)
      have u3 : ∀ b, b < w.heap.size + 1 + 1 + 1 + 1 → b ≠ w.heap.size + 1 + 1 → _ = W.heap[b]? := fun b hb hne => r4 b (by omega) hne (owns_not hrow (by omega))
      have e : decD xs m (pre ++ [x]) = decD xs m pre ++ [u8 (hi * 16 + lo)] := by simp [decD, hHi, hLo]
      refine ⟨r3, ⟨u1, u2⟩, ⟨⟨_, r1, ?_, fun y hy => ?_⟩, (u3 _ (by omega) (by omega)).trans hx, u1.trans q1, u2.trans q2, (u3 _ (by omega) (by omega)).trans h2, (u3 _ (by omega) (by omega)).trans h3⟩,
        r5.os.trans hB.os, r5.tape.trans hB.tape, r5.output.trans hB.output, Nat.le_trans hB.size r5.size, fun b hb => (u3 b (by omega) (by omega)).trans (hB.block b hb)⟩
      · rw [← hsz, e, List.length_append, List.map_append]
        exact r2
      · rcases List.mem_append.1 hy with hy | hy
        · exact hgood y hy
        · simp only [List.mem_singleton] at hy; subst hy; rw [hHi, hLo]; exact ⟨hg1, hg2⟩
    · have hbad : ¬ goodD xs m (pre ++ [x]) := fun h => hg (by have := h x (by simp); rw [hHi, hLo] at this; exact this)
      have c20 : W.cell? ⟨w.heap.size, 0, none⟩ = some (.int .i64 0) := by rw [Lib.cell_of_heap h2]; rfl
      have f20 : W.frozen? ⟨w.heap.size, 0, none⟩ = false := Lib.frozen_of_heap h2 0
      have c20d : W.drew.cell? ⟨w.heap.size, 0, none⟩ = some (.int .i64 0) := c20
      have f20d : W.drew.frozen? ⟨w.heap.size, 0, none⟩ = false := f20
      have c21 : W.cell? ⟨w.heap.size, 1, none⟩ = some (.int .i64 0) := by rw [Lib.cell_of_heap h2]; rfl
      have f21 : W.frozen? ⟨w.heap.size, 1, none⟩ = false := Lib.frozen_of_heap h2 1
      have c21d : W.drew.cell? ⟨w.heap.size, 1, none⟩ = some (.int .i64 0) := c21
      have f21d : W.drew.frozen? ⟨w.heap.size, 1, none⟩ = false := f21
      have c22 : W.cell? ⟨w.heap.size, 2, none⟩ = some (.int .i64 0) := by rw [Lib.cell_of_heap h2]; rfl
      have f22 : W.frozen? ⟨w.heap.size, 2, none⟩ = false := Lib.frozen_of_heap h2 2
      have c22d : W.drew.cell? ⟨w.heap.size, 2, none⟩ = some (.int .i64 0) := c22
      have f22d : W.drew.frozen? ⟨w.heap.size, 2, none⟩ = false := f22
      have c23 : W.cell? ⟨w.heap.size, 3, none⟩ = some (.int .i64 0) := by rw [Lib.cell_of_heap h2]; rfl
      have f23 : W.frozen? ⟨w.heap.size, 3, none⟩ = false := Lib.frozen_of_heap h2 3
      have c23d : W.drew.cell? ⟨w.heap.size, 3, none⟩ = some (.int .i64 0) := c23
      have f23d : W.drew.frozen? ⟨w.heap.size, 3, none⟩ = false := f23
      have c24 : W.cell? ⟨w.heap.size, 4, none⟩ = some (.slice none 0 0) := by rw [Lib.cell_of_heap h2]; rfl
      have f24 : W.frozen? ⟨w.heap.size, 4, none⟩ = false := Lib.frozen_of_heap h2 4
      have c24d : W.drew.cell? ⟨w.heap.size, 4, none⟩ = some (.slice none 0 0) := c24
      have f24d : W.drew.frozen? ⟨w.heap.size, 4, none⟩ = false := f24
      have c30 : W.cell? ⟨w.heap.size + 1, 0, none⟩ = some (.int .i64 0) := by rw [Lib.cell_of_heap h3]; rfl
      have f30 : W.frozen? ⟨w.heap.size + 1, 0, none⟩ = false := Lib.frozen_of_heap h3 0
      have c30d : W.drew.cell? ⟨w.heap.size + 1, 0, none⟩ = some (.int .i64 0) := c30
      have f30d : W.drew.frozen? ⟨w.heap.size + 1, 0, none⟩ = false := f30
      obtain ⟨X, hX, y1, y2, y3, y4, y5⟩ := two_stores' h2 h3 (by omega) (.int .i64 0) (.int .i64 0) (.int .i64 0) (.int .i64 0) (.slice none 0 0) (.int .i64 240)
      have y6 := hB.trans (y5 w.heap.size (Nat.le_refl _) (by omega))
      by_cases hb1 : hi < 0
      · gi_wp2
        rw [← hX]
        exact ⟨y4, ⟨rfl, hbad, y1, y2⟩, y6⟩
      · have hb2 : lo < 0 := by omega
        gi_wp2
        rw [← hX]
        exact ⟨y4, ⟨rfl, hbad, y1, y2⟩, y6⟩
  case done =>
    rintro D ys W hD rfl ⟨⟨⟨v, hv, hrow, hgood⟩, hx, q1, q2, h2, h3⟩, hB⟩ hK
    have o' : OwnF W W4.heap.size 5 v (decD xs m (List.finRange m)) := ⟨bcs (decD xs m (List.finRange m)), by rw [bcs, flat_bytes]; exact hrow, bcs_one _, fun j hj => by rw [bcs, flat_at _ (fun _ _ => trivial) j hj]; exact Fixed.K trivial⟩
    obtain ⟨A9, c9, rfl, -⟩ := Own.slice o'
    have hld : (decD xs m (List.finRange m)).length ≤ 1000000 := by simp [decD]; omega
    have hcb := hv.cell
    have hev : lineE xs m = takeS (decD xs m (List.finRange m)) := by rw [lineE, if_pos hgood]
    generalize hdd : decD xs m (List.finRange m) = dd at *
    gi_wp2_with (refine ⟨trivial, ?_⟩; gi_at_call 25; refine (callsIn_wide.2 (scTake_c o'.sl hld)).mono ?_; rintro e W7 ⟨A, n, c, rfl, o7, b7⟩; have p2 := (b7.block _ (heap_lt h2)).trans h2; have p3 := (b7.block _ (heap_lt h3)).trans h3; have c20 : W7.cell? ⟨w.heap.size, 0, none⟩ = some (.int .i64 0) := (Lib.cell_of_heap p2 _).trans rfl; have f20 : W7.frozen? ⟨w.heap.size, 0, none⟩ = false := Lib.frozen_of_heap p2 0; have c21 : W7.cell? ⟨w.heap.size, 1, none⟩ = some (.int .i64 0) := (Lib.cell_of_heap p2 _).trans rfl; have f21 : W7.frozen? ⟨w.heap.size, 1, none⟩ = false := Lib.frozen_of_heap p2 1; have c22 : W7.cell? ⟨w.heap.size, 2, none⟩ = some (.int .i64 0) := (Lib.cell_of_heap p2 _).trans rfl; have f22 : W7.frozen? ⟨w.heap.size, 2, none⟩ = false := Lib.frozen_of_heap p2 2; have c23 : W7.cell? ⟨w.heap.size, 3, none⟩ = some (.int .i64 0) := (Lib.cell_of_heap p2 _).trans rfl; have f23 : W7.frozen? ⟨w.heap.size, 3, none⟩ = false := Lib.frozen_of_heap p2 3; have c24 : W7.cell? ⟨w.heap.size, 4, none⟩ = some (.slice none 0 0) := (Lib.cell_of_heap p2 _).trans rfl; have f24 : W7.frozen? ⟨w.heap.size, 4, none⟩ = false := Lib.frozen_of_heap p2 4; have c30 : W7.cell? ⟨w.heap.size + 1, 0, none⟩ = some (.int .i64 0) := (Lib.cell_of_heap p3 _).trans rfl; have f30 : W7.frozen? ⟨w.heap.size + 1, 0, none⟩ = false := Lib.frozen_of_heap p3 0)
    obtain ⟨X, hX⟩ : ∃ X, X = ((((((W7.setCell ⟨w.heap.size, 0, none⟩ (.int .i64 (takeS dd).1.1)).setCell ⟨w.heap.size, 1, none⟩ (.int .i64 (takeS dd).1.2.1)).setCell ⟨w.heap.size, 2, none⟩ (.int .i64 (takeS dd).1.2.2.1)).setCell ⟨w.heap.size, 3, none⟩ (.int .i64 (takeS dd).1.2.2.2.1)).setCell ⟨w.heap.size, 4, none⟩ (.slice A n c)).setCell ⟨w.heap.size + 1, 0, none⟩ (.int .i64 (takeS dd).2)) := ⟨_, rfl⟩
    rw [← hX]
    have lt2 := heap_lt h2
    have lt3 := heap_lt h3
    have hD2 : w.heap.size + 1 < D := by have := hb.size; omega
    obtain ⟨y1, y2, y3, y4, y5⟩ := two_stores p2 p3 (by omega) hX
    have hKX : X.heap[D]? = some (.deferred (some [])) := (y3 D (by omega) (by omega)).trans ((b7.block D (heap_lt hK)).trans hK)
    refine ⟨by simp, .inl ⟨_, _, rfl, run_takeDeferred hKX, ?_⟩⟩
    have hgp := grownBy_putObj' X D (.deferred none)
    have hgr : ∀ r, some D = some r → ∃ o : Obj, X.heap[r]? = some o ∧ o.isCells = false := fun r e => by cases e; exact ⟨_, hKX, rfl⟩
    have p2' := cells_kept y1 hgp hgr
    have p3' := cells_kept y2 hgp hgr
    rw [hev]
    have oX : OwnF (X.putObj D (.deferred none)) W.heap.size 39 (.slice A n c) (takeS dd).1.2.2.2.2 := own_same o7 fun g C t fz hg hC => cells_kept ((y3 g (by omega) (by omega)).trans hC) hgp hgr
    refine ⟨.tuple #[.agg #[.int .i64 (takeS dd).1.1, .int .i64 (takeS dd).1.2.1, .int .i64 (takeS dd).1.2.2.1, .int .i64 (takeS dd).1.2.2.2.1, .slice A n c], .int .i64 (takeS dd).2], ?_, A, n, c, rfl, oX.base' fun k hk => Nat.le_trans hB.size (Own.lt oX k hk).1,
      ((hB.trans (b7.mono hB.size)).trans (y5 w.heap.size (Nat.le_refl _) (by omega))).trans (belowK_b (w := w) (Nat.le_refl _) X D _ _ (by omega) hKX rfl rfl)⟩
    have k20 : (X.putObj D (.deferred none)).cell? ⟨w.heap.size, 0, none⟩ = some (.int .i64 (takeS dd).1.1) := (Lib.cell_of_heap p2' _).trans rfl
    have k21 : (X.putObj D (.deferred none)).cell? ⟨w.heap.size, 1, none⟩ = some (.int .i64 (takeS dd).1.2.1) := (Lib.cell_of_heap p2' _).trans rfl
    have k22 : (X.putObj D (.deferred none)).cell? ⟨w.heap.size, 2, none⟩ = some (.int .i64 (takeS dd).1.2.2.1) := (Lib.cell_of_heap p2' _).trans rfl
    have k23 : (X.putObj D (.deferred none)).cell? ⟨w.heap.size, 3, none⟩ = some (.int .i64 (takeS dd).1.2.2.2.1) := (Lib.cell_of_heap p2' _).trans rfl
    have k24 : (X.putObj D (.deferred none)).cell? ⟨w.heap.size, 4, none⟩ = some (.slice A n c) := (Lib.cell_of_heap p2' _).trans rfl
    have k30 : (X.putObj D (.deferred none)).cell? ⟨w.heap.size + 1, 0, none⟩ = some (.int .i64 (takeS dd).2) := (Lib.cell_of_heap p3' _).trans rfl
    simp [results, Tryd.f60, go_sem, k20, k21, k22, k23, k24, k30]
  case stop =>
    rintro D c pre W hD ⟨k, hk, rfl⟩ ⟨⟨rfl, hbad, h2, h3⟩, hB⟩ hK
    gi_wp2
    refine ⟨by simp, .inl ⟨_, _, rfl, run_takeDeferred hK, ?_⟩⟩
    have hgp := grownBy_putObj' W D (.deferred none)
    have hgr : ∀ r, some D = some r → ∃ o : Obj, W.heap[r]? = some o ∧ o.isCells = false := fun r e => by cases e; exact ⟨_, hK, rfl⟩
    have p2 := cells_kept h2 hgp hgr
    have p3 := cells_kept h3 hgp hgr
    have hev : lineE xs m = (zeroS, 240) := by rw [lineE, if_neg (fun h => hbad fun x hx => h x (List.mem_of_mem_take hx))]
    rw [hev]
    refine ⟨.tuple #[.agg #[.int .i64 0, .int .i64 0, .int .i64 0, .int .i64 0, .slice none 0 0], .int .i64 240], ?_, none, 0, 0, rfl, own_nil0 _ _ _, hB.trans (belowK_b (w := w) (Nat.le_refl _) W D _ _ (by omega) hK rfl rfl)⟩
    have c20 : (W.putObj D (.deferred none)).cell? ⟨w.heap.size, 0, none⟩ = some (.int .i64 0) := by rw [Lib.cell_of_heap p2]; rfl
    have c21 : (W.putObj D (.deferred none)).cell? ⟨w.heap.size, 1, none⟩ = some (.int .i64 0) := by rw [Lib.cell_of_heap p2]; rfl
    have c22 : (W.putObj D (.deferred none)).cell? ⟨w.heap.size, 2, none⟩ = some (.int .i64 0) := by rw [Lib.cell_of_heap p2]; rfl
    have c23 : (W.putObj D (.deferred none)).cell? ⟨w.heap.size, 3, none⟩ = some (.int .i64 0) := by rw [Lib.cell_of_heap p2]; rfl
    have c24 : (W.putObj D (.deferred none)).cell? ⟨w.heap.size, 4, none⟩ = some (.slice none 0 0) := by rw [Lib.cell_of_heap p2]; rfl
    have c30 : (W.putObj D (.deferred none)).cell? ⟨w.heap.size + 1, 0, none⟩ = some (.int .i64 240) := by rw [Lib.cell_of_heap p3]; rfl
    simp [results, Tryd.f60, go_sem, c20, c21, c22, c23, c24, c30]
end Go.Proofs.YtfjenamomipmdaaDoor
