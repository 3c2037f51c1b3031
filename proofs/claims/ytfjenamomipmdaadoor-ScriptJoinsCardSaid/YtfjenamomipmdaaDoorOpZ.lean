/- Operations: what an argument's reading says of them; contracts on rows of operations. -/
import Derived.Test.YtfjenamomipmdaaDoorOpY
set_option linter.unusedSimpArgs false
set_option linter.unusedVariables false
namespace Go.Trc
open Go Go.RowKit

theorem Rd.map {P : Program} {t : TypeId} {α β : Type} [Rep α] [Rep β] (h : Rd P t α) (f : α → β) (hf : ∀ (w : World) (ok : Nat → Prop) x cs, Rep.K w ok x cs → Rep.K w ok (f x) cs) : Rd P t β := by
  intro H enc w spare held n cs x hx
  obtain ⟨a, ha⟩ := h enc w spare held n cs x hx
  exact ⟨f a, hf _ _ _ _ ha⟩

theorem rd_pair {P : Program} {t t1 t2 : TypeId} {fs : Array Field} {α β : Type} [Rep α] [Rep β] (hu : P.underlying t = some (.struct fs)) (hf : (fs.toList.map fun f => (f.type, f.offset)) = [(t1, 0), (t2, Rep.sz α)])
    (h1 : P.cellsOf t1 = Rep.sz α) (h2 : P.cellsOf t2 = Rep.sz β) (hc : P.cellsOf t = Rep.sz α + Rep.sz β) (r1 : Rd P t1 α) (r2 : Rd P t2 β) : Rd P t (α × β) :=
  rd_struct hu hc (by rw [hf]; exact rdF_cons h1 r1 (by simp) (rdF_last h2 r2))
end Go.Trc
namespace Go.Proofs.YtfjenamomipmdaaDoor
open Go Go.RowKit Go.Proofs Go.Trc Go.Sx

instance repOp : Rep OpV where
  sz := 20
  pos := by decide
  K := fun _ _ o cs => cs = o.cells.toList ∧ o.ok ∧ o.tx.size ≤ maxLen
  len := by rintro _ _ _ _ ⟨rfl, _⟩; rfl
  one := by
    rintro _ _ o _ ⟨rfl, _⟩ u hu
    simp only [OpV.cells, List.mem_cons, List.not_mem_nil, or_false] at hu
    rcases hu with rfl | rfl | rfl | rfl | rfl | rfl | rfl | rfl | rfl | rfl | rfl | rfl | rfl | rfl | rfl | rfl | rfl | rfl | rfl | rfl <;> rfl
  mono := by rintro _ _ _ _ _ _ _ h; exact h

abbrev IDT := Int × Int
abbrev DartT := IDT × Int
abbrev CornerT := IDT × DartT
abbrev OpT := Int × IDT × IDT × IDT × CornerT × CornerT × Bool × ByteArray × Int
def OpT.v (x : OpT) : OpV :=
  ⟨x.1, x.2.1.1, x.2.1.2, x.2.2.1.1, x.2.2.1.2, x.2.2.2.1.1, x.2.2.2.1.2, x.2.2.2.2.1.1.1, x.2.2.2.2.1.1.2, x.2.2.2.2.1.2.1.1, x.2.2.2.2.1.2.1.2, x.2.2.2.2.1.2.2,
    x.2.2.2.2.2.1.1.1, x.2.2.2.2.2.1.1.2, x.2.2.2.2.2.1.2.1.1, x.2.2.2.2.2.1.2.1.2, x.2.2.2.2.2.1.2.2, x.2.2.2.2.2.2.1, x.2.2.2.2.2.2.2.1, x.2.2.2.2.2.2.2.2⟩

theorem rd_id : Rd Tryd.prog 33 IDT := rd_pair Tryd.underlying33 rfl (by kernel_rfl) (by kernel_rfl) (by kernel_rfl) (rd_int Tryd.underlying3) (rd_int Tryd.underlying3)
theorem rd_dart : Rd Tryd.prog 35 DartT := rd_pair Tryd.underlying35 rfl (by kernel_rfl) (by kernel_rfl) (by kernel_rfl) rd_id (rd_int Tryd.underlying3)
theorem rd_corner : Rd Tryd.prog 37 CornerT := rd_pair Tryd.underlying37 rfl (by kernel_rfl) (by kernel_rfl) (by kernel_rfl) rd_id rd_dart
theorem rd_opT : Rd Tryd.prog 39 OpT :=
  rd_struct Tryd.underlying39 (by kernel_rfl)
    (rdF_cons (by kernel_rfl) (rd_int Tryd.underlying3) rfl (rdF_cons (by kernel_rfl) rd_id rfl (rdF_cons (by kernel_rfl) rd_id rfl (rdF_cons (by kernel_rfl) rd_id rfl (rdF_cons (by kernel_rfl) rd_corner rfl (rdF_cons (by kernel_rfl) rd_corner rfl
      (rdF_cons (by kernel_rfl) (rd_bool Tryd.underlying4) rfl (rdF_cons (by kernel_rfl) (rd_string Tryd.underlying9) rfl (rdF_last (by kernel_rfl) (rd_int Tryd.underlying3))))))))))
theorem opT_K (w : World) (ok : Nat → Prop) (x : OpT) (cs : List Value) (h : Rep.K w ok x cs) : Rep.K w ok x.v cs := by
  obtain ⟨kd, ⟨s, n⟩, ⟨s1, n1⟩, ⟨s2, n2⟩, ⟨⟨a1, a2⟩, ⟨a3, a4⟩, a5⟩, ⟨⟨b1, b2⟩, ⟨b3, b4⟩, b5⟩, oe, tx, nn⟩ := x
  obtain ⟨c1, c2, rfl, ⟨rfl, hkd⟩, c3, c4, rfl, ⟨c5, c6, rfl, ⟨rfl, _⟩, ⟨rfl, _⟩⟩, c7, c8, rfl, ⟨c9, c10, rfl, ⟨rfl, _⟩, ⟨rfl, _⟩⟩, c11, c12, rfl, ⟨c13, c14, rfl, ⟨rfl, _⟩, ⟨rfl, _⟩⟩, c15, c16, rfl, hA, c17, c18, rfl, hB, c19, c20, rfl, rfl, c21, c22, rfl, ⟨rfl, htx⟩, ⟨rfl, hnn⟩⟩ := h
  obtain ⟨d1, d2, rfl, ⟨d3, d4, rfl, ⟨rfl, _⟩, ⟨rfl, _⟩⟩, d5, d6, rfl, ⟨d7, d8, rfl, ⟨rfl, _⟩, ⟨rfl, _⟩⟩, ⟨rfl, ha5⟩⟩ := hA
  obtain ⟨e1, e2, rfl, ⟨e3, e4, rfl, ⟨rfl, _⟩, ⟨rfl, _⟩⟩, e5, e6, rfl, ⟨e7, e8, rfl, ⟨rfl, _⟩, ⟨rfl, _⟩⟩, ⟨rfl, hb5⟩⟩ := hB
  exact ⟨rfl, ⟨hkd, ha5, hb5, hnn⟩, htx⟩
theorem rd_op : Rd Tryd.prog 39 OpV := rd_opT.map OpT.v opT_K

/-- What is wrong with the first that may not be; 0: none. -/
def firstBad : List OpV → Int
  | [] => 0
  | o :: l => if mayV o = 0 then firstBad l else mayV o
def mayEditV (l : List OpV) : Int := if l.length = 0 ∨ 6 < l.length then 3 else firstBad l

theorem Sl.op {w : World} {ok : Nat → Prop} {A : Option Addr} {n c : Nat} {xs : List OpV} (h : Sl w ok (.slice A n c) xs) (k : Nat) (hk : k < xs.length) :
    ∃ b o, A = some ⟨b, o, none⟩ ∧ ok b ∧ xs[k].ok ∧ xs[k].tx.size ≤ maxLen ∧ CellsAt w b (o + k * 20 + 0) xs[k].cells.toList := by
  obtain ⟨b, o, hA, hb, cs, ⟨rfl, h1, h2⟩, hc⟩ := h.elem k hk
  exact ⟨b, o, hA, hb, h1, h2, hc⟩

theorem mayEdit_c (w : World) (ok : Nat → Prop) (A : Option Addr) (n c : Nat) (xs : List OpV) (h : Sl w ok (.slice A n c) xs) : Calls Tryd.prog 34 #[.agg #[.slice A n c]] w (Ret (.int .i64 (mayEditV xs)) w) := by
  have hn := h.len
  refine op_MayEdit_sx _ (fun _ => False) w A n c ?_
  intro g hg
  refine ⟨fun h1 w1 f1 _ => ret_leaf f1 ?_, fun h1 => ⟨fun h2 w1 f1 _ => ret_leaf f1 ?_, fun h2 => ?_⟩⟩
  · have : mayEditV xs = 3 := by unfold mayEditV; rw [if_pos (.inl (by omega))]
    rw [this]
  · have : mayEditV xs = 3 := by unfold mayEditV; rw [if_pos (.inr (by omega))]
    rw [this]
  · have hm : mayEditV xs = firstBad xs := by unfold mayEditV; rw [if_neg (by omega)]
    rw [hm]
    refine ⟨fun _ i _ => ∃ k : Nat, i = k ∧ k ≤ xs.length ∧ firstBad xs = firstBad (xs.drop k), fun _ i _ => (n - i : Int).toNat, fun w1 _ _ => ⟨0, rfl, Nat.zero_le _, rfl⟩, ?_⟩
    rintro i4 i5 w2 f2 ⟨k, rfl, hk, hf⟩
    have h2 := h.below (fr_below f2)
    refine ⟨fun hlt => ?_, fun hge => ret_leaf f2 ?_⟩
    · have hlt' : k < xs.length := by omega
      obtain ⟨b, o, hA, _, hok, htx, hc⟩ := Sl.op h2 k hlt'
      refine ⟨by omega, hlt, b, o, hA, _, _, _, _, _, _, _, _, _, _, _, _, _, _, _, _, _, _, _, _, hc, fun g' _ w3 f3 b3 => (may_c w3 xs[k] hok).mono ?_⟩
      rintro e w4 ⟨rfl, b4⟩
      refine ⟨_, rfl, ok_below f3 b4, fun hne => ret_leaf (f3.step b4) ?_, fun he => ⟨⟨k + 1, ?_, hlt', ?_⟩, ?_⟩⟩
      · rw [hf, drop_at xs k hlt']; simp only [firstBad, if_neg hne]
      · rw [wrap_in (by omega)]; omega
      · rw [hf, drop_at xs k hlt']; simp only [firstBad, if_pos he]
      · rw [wrap_in (by omega)]; dsimp only; omega
    · rw [hf, List.drop_of_length_le (by omega)]; rfl

theorem ref_mayEdit_c (w : World) (ok : Nat → Prop) (A : Option Addr) (n c : Nat) (xs : List OpV) (h : Sl w ok (.slice A n c) xs) : Calls Tryd.prog 39 #[.agg #[.slice A n c]] w (Ret (.int .i64 (mayEditV xs)) w) := by
  have hn := h.len
  refine ref09_MayEdit_sx _ (fun _ => False) w A n c ?_
  intro g hg
  refine ⟨fun h1 w1 f1 _ => ret_leaf f1 ?_, fun h1 => ⟨fun h2 w1 f1 _ => ret_leaf f1 ?_, fun h2 => ?_⟩⟩
  · have : mayEditV xs = 3 := by unfold mayEditV; rw [if_pos (.inl (by omega))]
    rw [this]
  · have : mayEditV xs = 3 := by unfold mayEditV; rw [if_pos (.inr (by omega))]
    rw [this]
  · have hm : mayEditV xs = firstBad xs := by unfold mayEditV; rw [if_neg (by omega)]
    rw [hm]
    refine ⟨fun _ i _ => ∃ k : Nat, i = k ∧ k ≤ xs.length ∧ firstBad xs = firstBad (xs.drop k), fun _ i _ => (n - i : Int).toNat, fun w1 _ _ => ⟨0, rfl, Nat.zero_le _, rfl⟩, ?_⟩
    rintro i4 i5 w2 f2 ⟨k, rfl, hk, hf⟩
    have h2 := h.below (fr_below f2)
    refine ⟨fun hlt => ?_, fun hge => ret_leaf f2 ?_⟩
    · have hlt' : k < xs.length := by omega
      obtain ⟨b, o, hA, _, hok, htx, hc⟩ := Sl.op h2 k hlt'
      refine ⟨by omega, hlt, b, o, hA, _, _, _, _, _, _, _, _, _, _, _, _, _, _, _, _, _, _, _, _, hc, (ref_may_c w2 xs[k] htx).mono ?_⟩
      rintro e w4 ⟨rfl, b4⟩
      refine ⟨_, rfl, ok_below f2 b4, fun hne => ret_leaf (f2.step b4) ?_, fun he => ⟨⟨k + 1, ?_, hlt', ?_⟩, ?_⟩⟩
      · rw [hf, drop_at xs k hlt']; simp only [firstBad, if_neg hne]
      · rw [wrap_in (by omega)]; omega
      · rw [hf, drop_at xs k hlt']; simp only [firstBad, if_pos he]
      · rw [wrap_in (by omega)]; dsimp only; omega
    · rw [hf, List.drop_of_length_le (by omega)]; rfl

end Go.Proofs.YtfjenamomipmdaaDoor

