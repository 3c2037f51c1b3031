/- OpcodeRows: edits one behind the other. -/
import Derived.Test.YtfjenamomipmdaaDoorOcTu
set_option linter.unusedSimpArgs false
set_option linter.unusedVariables false
namespace Go.Trc
open Go Go.RowKit Go.Sx
/-- What a slice is told by. -/
structure Hd where
  A : Option Addr
  n : Nat
  c : Nat
@[reducible] def Hd.v (h : Hd) : Value := .slice h.A h.n h.c
instance : Rep Hd where
  sz := 1
  pos := by decide
  K := fun _ _ x cs => cs = [x.v]
  len := by rintro _ _ _ _ rfl; rfl
  one := by rintro _ _ _ _ rfl u hu; simp at hu; subst hu; rfl
  mono := by rintro _ _ _ _ _ _ _ h; exact h
instance : Fixed Hd := ⟨fun x => [x.v], fun _ => True, ⟨fun h => ⟨h, trivial⟩, fun h => h.1⟩⟩
/-- Rows of one length, alike at each place. -/
def Al {α β : Type} (R : α → β → Prop) (xs : List α) (us : List β) : Prop := xs.length = us.length ∧ ∀ j (h1 : j < xs.length) (h2 : j < us.length), R xs[j] us[j]
namespace Al
variable {α β : Type} {R R' : α → β → Prop} {xs ys : List α} {us zs : List β}
theorem nil : Al R [] [] := ⟨rfl, fun j h => by cases h⟩
theorem one {a : α} {b : β} (h : R a b) : Al R [a] [b] := ⟨rfl, fun j h1 _ => by
  obtain rfl : j = 0 := by simpa using h1
  exact h⟩
theorem mono (h : Al R xs us) (m : ∀ a b, R a b → R' a b) : Al R' xs us := ⟨h.1, fun j h1 h2 => m _ _ (h.2 j h1 h2)⟩
theorem append (h : Al R xs us) (h' : Al R ys zs) : Al R (xs ++ ys) (us ++ zs) := by
  refine ⟨by simp [h.1, h'.1], fun j h1 h2 => ?_⟩
  have hl := h.1
  by_cases hj : j < xs.length
  · rw [List.getElem_append_left hj, List.getElem_append_left (by omega)]
    exact h.2 j hj (by omega)
  · rw [List.getElem_append_right (by omega), List.getElem_append_right (by omega)]
    simp only [List.length_append] at h1 h2
    have := h'.2 (j - xs.length) (by omega) (by omega)
    simp only [← hl]
    exact this
end Al
end Go.Trc
namespace Go.Proofs.YtfjenamomipmdaaDoor
open Go Go.RowKit Go.Proofs Go.Trc Go.Sx
/-- A block of another type than an edit. -/
def nE (w : World) (b : Nat) : Prop := ∃ C t fr, w.heap[b]? = some (.cells C t fr) ∧ t ≠ 25
def StE (w w' : World) : Prop := ∀ b, nE w b → w'.heap[b]? = w.heap[b]?
theorem StE.ne {w w' : World} (k : StE w w') {b : Nat} (h : nE w b) : nE w' b := by
  obtain ⟨C, t, fr, hh, ht⟩ := id h
  exact ⟨C, t, fr, (k b h).trans hh, ht⟩
theorem stE_below {w w' : World} (b : Below w.heap.size w w') : StE w w' := fun k ⟨C, t, fr, hh, ht⟩ => b.block k (heap_lt hh)
theorem Sl.ste {α : Type} [Rep α] {w w' : World} {v : Value} {xs : List α} (h : Sl w (nE w) v xs) (k : StE w w') : Sl w' (nE w') v xs := Sl.mono (fun b hb _ => ⟨k.ne hb, k b hb⟩) h
theorem own_nE {α : Type} [Rep α] [Flat α] {w : World} {base : Nat} {e : TypeId} {v : Value} {xs : List α} (h : OwnF w base e v xs) (he : e ≠ 25) : Sl w (nE w) v xs := by
  obtain ⟨A, c, rfl, hA⟩ := Own.slice h
  have hs := h.sl
  obtain ⟨A', c', he', h1, h2, h3, h4⟩ := hs
  injection he' with e1 e2 e3
  subst e1; subst e3
  refine ⟨A, c, rfl, h1, h2, h3, fun hp => ?_⟩
  obtain ⟨b, o, hb, hok, hc⟩ := h4 hp
  refine ⟨b, o, hb, ?_, fun j hj => by
    obtain ⟨cs, hK, hcc⟩ := hc j hj
    exact ⟨cs, Flat.flat hK, hcc⟩⟩
  obtain ⟨cs, ⟨_, q⟩, _⟩ := h
  rcases q with ⟨q, _⟩ | ⟨g', cap, cur, q, _, hg', _⟩
  · injection q with q; rw [hb] at q; cases q
  · injection q with q
    rw [hb] at q
    injection q with q
    injection q with q
    subst q
    exact ⟨_, e, _, hg', he⟩
theorem stE_app {α : Type} [Rep α] {w w' : World} {base : Nat} {v : Value} {xs : List α} (o : OwnF w base 25 v xs) (g : w.grownBy w' (tail v)) : StE w w' := by
  rintro b ⟨C, t, fr, hh, ht⟩
  refine g.block b (heap_lt hh) fun hb => ?_
  rcases tail_own v with h0 | h0
  · rw [h0] at hb; cases hb
  · rw [h0] at hb
    exact own_ne' o hh ht hb.symm
/-- A row of edits, and what they are. -/
def RowsS (base : Nat) (w : World) (v : Value) (ls : List (List OpV)) : Prop := ∃ hs : List Hd, OwnF w base 25 v hs ∧ Al (fun (h : Hd) l => Sl w (nE w) h.v l) hs ls
theorem RowsS.below {base : Nat} {w w' : World} {v : Value} {ls : List (List OpV)} (h : RowsS base w v ls) (b : Below w.heap.size w w') : RowsS base w' v ls := by
  obtain ⟨hs, o, a⟩ := h
  exact ⟨hs, o.below b, a.mono fun _ _ s => Sl.ste s (stE_below b)⟩
theorem RowsS.len {base : Nat} {w : World} {A : Option Addr} {n c : Nat} {ls : List (List OpV)} (h : RowsS base w (.slice A n c) ls) : n = ls.length := by
  obtain ⟨hs, o, a⟩ := h
  rw [o.sl.len, a.1]
theorem RowsS.at_ {base : Nat} {w : World} {A : Option Addr} {n c : Nat} {ls : List (List OpV)} (h : RowsS base w (.slice A n c) ls) (k : Nat) (hk : k < ls.length) :
    ∃ b o A1 n1 c1, A = some ⟨b, o, none⟩ ∧ b < w.heap.size ∧ CellsAt w b (o + k * 1 + 0) [.slice A1 n1 c1] ∧ Sl w (nE w) (.slice A1 n1 c1) ls[k] := by
  obtain ⟨hs, o, a⟩ := h
  have h1 : k < hs.length := by rw [a.1]; exact hk
  obtain ⟨b, o', hA, _, hl, _, hc⟩ := Sl.cells o.sl k h1
  exact ⟨b, o', hs[k].A, hs[k].n, hs[k].c, hA, hl, hc, a.2 k h1 hk⟩
def goods (L : List (List OpV)) : List (List OpV) := (L.map fewV).filter fun l => decide (mayEditV l = 0)
theorem goods_snoc (L : List (List OpV)) (x : List OpV) : goods (L ++ [x]) = if mayEditV (fewV x) = 0 then goods L ++ [fewV x] else goods L := by
  unfold goods
  rw [List.map_append, List.filter_append]
  split
  · rename_i h; simp [h]
  · rename_i h; simp [h]
theorem goods_may {L : List (List OpV)} {l : List OpV} (h : l ∈ goods L) : mayEditV l = 0 := by
  unfold goods at h
  have := (List.mem_filter.1 h).2
  simpa using this
theorem goods_len (L : List (List OpV)) : (goods L).length ≤ L.length := by
  unfold goods; exact Nat.le_trans (List.length_filter_le _ _) (by simp)
theorem flat_len8 : ∀ {ls : List (List OpV)}, (∀ l ∈ ls, mayEditV l = 0) → (ls.flatMap editB).length ≤ 241 * ls.length
  | [], _ => by simp
  | l :: ls, h => by
    rw [List.flatMap_cons, List.length_append, List.length_cons]
    have := (editB_len (h l (by simp))).1
    have := flat_len8 (ls := ls) fun x hx => h x (List.mem_cons_of_mem _ hx)
    omega
theorem rd_edits : Rd Tryd.prog 41 (List (List OpV)) := rd_slice Tryd.underlying41 (by kernel_rfl) rd_edit
theorem infoE : (Tryd.prog.info? 25).map (fun i => (i.zero, i.size, i.bytes)) = some (some (.agg #[.slice none 0 0]), 1, 24) := by kernel_rfl
theorem neq_bool (W : World) (x y : Bool) : (binOp .neq 4 (.bool x) (.bool y)).run Tryd.prog W = .ok (.bool (x != y)) W := by
  go_simp
  cases x <;> cases y <;> rfl
theorem pre_inj {a b : List OpV} (ha : mayEditV a = 0) (hb : mayEditV b = 0) (hl : (editB a).length ≤ (editB b).length) : (editB b).take (editB a).length = editB a ↔ a = b := by
  constructor
  · intro h
    have e : editB b = editB a ++ (editB b).drop (editB a).length := by
      have := List.take_append_drop (editB a).length (editB b)
      rw [h] at this; exact this.symm
    have h1 := take_put hb []
    rw [List.append_nil, e, take_put ha] at h1
    simp only [Prod.mk.injEq] at h1
    exact h1.1
  · rintro rfl; exact List.take_length
theorem RowsS.adr {base : Nat} {w : World} {A : Option Addr} {n c : Nat} {ls : List (List OpV)} (h : RowsS base w (.slice A n c) ls) (hk : 0 < ls.length) : ∃ b o, A = some ⟨b, o, none⟩ := by
  obtain ⟨b, o, _, _, _, hA, _⟩ := h.at_ 0 hk
  exact ⟨b, o, hA⟩
theorem RowsS.cell {base : Nat} {w : World} {b o n c : Nat} {ls : List (List OpV)} (h : RowsS base w (.slice (some ⟨b, o, none⟩) n c) ls) (k : Nat) (hk : k < ls.length) :
    ∃ A1 n1 c1, b < w.heap.size ∧ CellsAt w b (o + ((k : Int)).toNat * 1 + 0) [.slice A1 n1 c1] ∧ Sl w (nE w) (.slice A1 n1 c1) ls[k] := by
  obtain ⟨b', o', A1, n1, c1, hA, hp, hc, hs⟩ := h.at_ k hk
  injection hA with e; injection e with e1 e2; subst e1; subst e2
  exact ⟨A1, n1, c1, hp, by simpa using hc, hs⟩
theorem eq_b (xs ys : List UInt8) : ((⟨xs.toArray⟩ : ByteArray).toList == (⟨ys.toArray⟩ : ByteArray).toList) = decide (xs = ys) := by
  rw [Bool.eq_iff_iff, beq_iff_eq, bytes_toList_inj, decide_eq_true_eq]
  constructor
  · intro h
    injection h with h
    simpa using congrArg Array.toList h
  · rintro rfl; rfl
theorem put_may {l : List OpV} (h : mayEditV l = 0) : putV [] l = (editB l, 0) := by unfold putV; rw [if_pos h]; rfl
set_option maxHeartbeats 8000000 in
theorem opcodeRows_walk (w : World) (A : Option Addr) (n c : Nat) (L : List (List OpV)) (h : Sl w (fun b => b < w.heap.size) (.slice A n c) L) :
    Calls Tryd.prog 5 #[.slice A n c] w (Ret (.bool true) w) := by
  have hn := h.len
  refine opcodeRows_sx _ (fun _ => False) w A n c ?_
  refine (shown10_c w).mono ?_
  rintro e w1 ⟨rfl, b1⟩
  have f1 : Fr (fun _ => False) w w1 := (Fr.refl _ _).step b1
  refine ⟨_, rfl, ok_ret b1 (Fr.refl _ _), fun g4 hg4 g5 hg5 => ⟨fun A6 n7 n8 A9 n10 n11 i w' => ∃ (k : Nat) (hs : List Hd), i = (k : Int) ∧ k ≤ L.length ∧ k ≤ 8 ∧ Sl w' (nE w') (.slice A6 n7 n8) ((goods (L.take k)).flatMap editB) ∧ Rw none w w.heap.size 25 w' (.slice A9 n10 n11) hs [g5, g4] ∧ Al (fun (h : Hd) l => Sl w' (nE w') h.v l) hs (goods (L.take k)), fun _ _ _ _ _ _ i _ => (8 - i).toNat, ?_, ?_⟩⟩
  · intro w2 f2 b2 lo5 t5 lo4 t4
    refine ⟨0, [], rfl, Nat.zero_le _, by omega, ?_, Rw.first f2 hg5 t5 (by simp; exact ⟨heap_lt t5, heap_lt t4⟩), Al.nil⟩
    have o : OwnF w2 w.heap.size 5 (.slice (some ⟨g4, 0, none⟩) 0 0) ([] : List UInt8) := OwnF.cells [] 0 rfl hg4 t4 (by decide) (by simp)
    exact own_nE o (by decide)
  rintro A6 n7 n8 A9 n10 n11 _ w3 f3 ⟨k, hs, rfl, hk, hk8, s3, r3, a3⟩
  have R3 : RowsS w.heap.size w3 (.slice A9 n10 n11) (goods (L.take k)) := ⟨hs, r3.own, a3⟩
  have hgl := goods_len (L.take k)
  rw [List.length_take] at hgl
  refine ⟨fun hlt => ⟨fun h8 => ?_, fun h8 => ?_⟩, fun hge => ?_⟩
  · have hlt' : k < L.length := by omega
    have hG : ∀ l ∈ goods (L.take k), mayEditV l = 0 := fun l hl => goods_may hl
    have hfl := flat_len8 hG
    have h7 := s3.len
    have hnext : L.take (k + 1) = L.take k ++ [L[k]] := take_snoc L k hlt'
    obtain ⟨b, o, A1, c1, hA, _, hcell, hrow⟩ := (h.below (fr_below f3)).row k hlt'
    refine ⟨by omega, hlt, b, o, hA, A1, L[k].length, c1, cells_one (by simpa using hcell), ?_⟩
    refine (few10_c hrow).mono ?_
    rintro e w4 ⟨A18, n19, c20, rfl, o4, b4⟩
    have f4 := f3.step b4
    refine ⟨A18, n19, c20, rfl, ok_ret b4 f3, ?_⟩
    refine (opcodePut_c (s3.below b4) (by omega) o4.sl).mono ?_
    rintro e w5 ⟨A21, n22, c23, rfl, o5, b5⟩
    have f5 := f4.step b5
    have B35 := b4.trans (b5.mono b4.size)
    refine ⟨A21, n22, c23, _, rfl, ok_ret b5 f4, fun he => ?_, fun hne => ?_⟩
    · have hm : mayEditV (fewV L[k]) = 0 := by
        unfold putV at he
        split at he
        · assumption
        · exact he
      have hp : putV ((goods (L.take k)).flatMap editB) (fewV L[k]) = ((goods (L.take k)).flatMap editB ++ editB (fewV L[k]), 0) := by unfold putV; rw [if_pos hm]
      rw [hp] at o5
      obtain ⟨b', o', A1', c1', hA', _, hcell', hrow'⟩ := (h.below (fr_below f5)).row k hlt'
      refine ⟨by omega, hlt, b', o', hA', A1', L[k].length, c1', cells_one (by simpa using hcell'), ?_⟩
      refine (few10_c hrow').mono ?_
      rintro e w6 ⟨A30, n31, c32, rfl, o6, b6⟩
      have f6 := f5.step b6
      refine ⟨A30, n31, c32, rfl, ok_ret b6 f5, fun g33 hg33 w7 f7 b7 lo33 t33 => ?_⟩
      have B36 := B35.trans (b6.mono B35.size)
      have r7 := (r3.below B36).on b7 [g33] (by simp only [List.mem_singleton]; rintro _ rfl; exact ⟨lo33, heap_lt t33⟩)
      have hl := a3.1
      obtain ⟨w8, A34, n35, c36, hr8, m8, r8, gr8, -⟩ := r7.append2 41 41 _ 24 Tryd.underlying41 infoE rfl (arg_cells [(⟨A30, n31, c32⟩ : Hd)] 1 rfl t33 (by decide) (fun _ _ => trivial)) (by simp only [List.length_cons, List.length_nil]; omega) (by simp only [List.length_cons, List.length_nil]; omega)
      have st := stE_app r7.own gr8
      refine ⟨w8, A34, n35, c36, hr8, ⟨fr_none m8.1, m8.2⟩, ⟨k + 1, hs ++ [⟨A30, n31, c32⟩], by rw [wrap_in (by omega)]; rfl, hlt', by omega, ?_, r8.less' (by intro g hg; simp at hg ⊢; omega), ?_⟩, by dsimp only; rw [wrap_in (by omega)]; omega⟩
      · rw [hnext, goods_snoc, if_pos hm, List.flatMap_append]
        have := Sl.ste (own_nE ((o5.below b6).below b7) (by decide)) st
        simpa using this
      · rw [hnext, goods_snoc, if_pos hm]
        refine Al.append (a3.mono fun _ _ s => Sl.ste (Sl.ste s (stE_below (B36.trans (b7.mono B36.size)))) st) (Al.one ?_)
        exact Sl.ste (own_nE (o6.below b7) (by decide)) st
    · have hm : ¬ mayEditV (fewV L[k]) = 0 := fun hm => hne (by unfold putV; rw [if_pos hm])
      refine ⟨⟨k + 1, hs, by rw [wrap_in (by omega)]; rfl, hlt', by omega, ?_, r3.below B35, ?_⟩, by dsimp only; rw [wrap_in (by omega)]; omega⟩
      · rw [hnext, goods_snoc, if_neg hm]
        exact Sl.ste s3 (stE_below B35)
      · rw [hnext, goods_snoc, if_neg hm]
        exact a3.mono fun _ _ s => Sl.ste s (stE_below B35)
  · generalize hGd : goods (L.take k) = G at R3 s3 hgl
    -- behind the first loop
    have hG : ∀ l ∈ G, mayEditV l = 0 := fun l hl => by rw [← hGd] at hl; exact goods_may hl
    have h10 := R3.len
    have hfl := flat_len8 hG
    refine ⟨fun _ i w' => ∃ k : Nat, i = (k : Int) ∧ k ≤ G.length ∧ RowsS w.heap.size w' (.slice A9 n10 n11) G ∧ Sl w' (fun _ => True) (.slice A6 n7 n8) (G.flatMap editB), fun _ i _ => (G.length - i : Int).toNat, ⟨0, rfl, Nat.zero_le _, R3, s3.any⟩, ?_⟩
    rintro b13 _ w4 f4 ⟨i, rfl, hi, R4, s4⟩
    refine ⟨fun hlt => ?_, fun hge => ?_⟩
    · refine ⟨fun _ j w' => ∃ k : Nat, j = (k : Int) ∧ k ≤ i ∧ RowsS w.heap.size w' (.slice A9 n10 n11) G ∧ Sl w' (fun _ => True) (.slice A6 n7 n8) (G.flatMap editB), fun _ j _ => (i - j : Int).toNat, ⟨0, rfl, Nat.zero_le _, R4, s4⟩, ?_⟩
      rintro b15 _ w5 f5 ⟨k, rfl, hk, R5, s5⟩
      have hi' : i < G.length := by omega
      refine ⟨fun hlt2 => ?_, fun hge2 => ⟨⟨i + 1, by rw [wrap_in (by omega)]; rfl, by omega, R5, s5⟩, by dsimp only; rw [wrap_in (by omega)]; omega⟩⟩
      have hk' : k < G.length := by omega
      obtain ⟨p, o, rfl⟩ := R5.adr (by omega)
      obtain ⟨A19, n20, c21, hp, hc, hs⟩ := R5.cell i hi'
      have ma := hG _ (List.getElem_mem hi')
      have mb := hG _ (List.getElem_mem hk')
      refine ⟨by omega, by omega, p, o, rfl, A19, n20, c21, hc, ?_⟩
      refine (opcodePut_c (Sl.nil0 w5 (fun _ => True)) (by omega) hs).mono ?_
      rintro e w6 ⟨A22, n23, c24, rfl, o6, b6⟩
      rw [put_may ma] at o6
      have f6 := f5.step b6
      have R6 := R5.below b6
      obtain ⟨A28, n29, c30, hp', hc', hs'⟩ := R6.cell k hk'
      refine ⟨A22, n23, c24, _, rfl, ok_ret b6 f5, by omega, by omega, p, o, rfl, A28, n29, c30, hc', ?_⟩
      refine (opcodePut_c (Sl.nil0 w6 (fun _ => True)) (by omega) hs').mono ?_
      rintro e w7 ⟨A31, n32, c33, rfl, o7, b7⟩
      rw [put_may mb] at o7
      have f7 := f6.step b7
      have R7 := R6.below b7
      have s7 := (s5.below b6).below b7
      have o6a := o6.below b7
      have h23 : n23 = (editB G[i]).length := o6.sl.len
      have h32 : n32 = (editB G[k]).length := o7.sl.len
      refine ⟨A31, n32, c33, _, rfl, ok_ret b7 f6, [], by simp, fun hle w8 f8 b8 => ?_, fun hgt w8 f8 b8 => ?_⟩
      · obtain ⟨hr, sx⟩ := hi_b o7.sl (k := n23) (by omega)
        have R8 := R7.below b8
        refine ⟨A31, n23, c33, fun w' _ => hr w', _, fun w' k => str_of (sx.kept b8 k), _, fun w' k => str_of (o6a.sl.kept b8 k), [], by simp, by omega, by omega, p, o, rfl, fun w9 f9 b9 => ?_⟩
        have R9 := R8.below b9
        obtain ⟨A44, n45, c46, hp8, -, -⟩ := R8.cell i hi'
        obtain ⟨A44, n45, c46, hp9, hc9, hs9⟩ := R9.cell i hi'
        obtain ⟨A49, n50, c51, -, hc9', hs9'⟩ := R9.cell k hk'
        refine ⟨A44, n45, c46, hc9, ⟨hp8, by simp⟩, by omega, by omega, p, o, rfl, A49, n50, c51, hc9', ⟨hp8, by simp⟩, ?_⟩
        refine (ref_same_c hs9 hs9').mono ?_
        rintro e w10 ⟨rfl, b10⟩
        have f10 := f9.step b10
        refine ⟨_, rfl, ok_ret b10 f9, _, neq_bool .., fun hbt => ?_, fun _ => ⟨⟨k + 1, by rw [wrap_in (by omega)]; rfl, by omega, R9.below b10, ((s7.below b8).below b9).below b10⟩, by dsimp only; rw [wrap_in (by omega)]; omega⟩⟩
        have hpi := pre_inj ma mb (by omega)
        rw [eq_b, h23] at hbt
        simp [hpi] at hbt
      · have R8 := R7.below b8
        refine ⟨[], by simp, by omega, by omega, p, o, rfl, fun w9 f9 b9 => ?_⟩
        have R9 := R8.below b9
        obtain ⟨A44, n45, c46, hp8, -, -⟩ := R8.cell i hi'
        obtain ⟨A44, n45, c46, hp9, hc9, hs9⟩ := R9.cell i hi'
        obtain ⟨A49, n50, c51, -, hc9', hs9'⟩ := R9.cell k hk'
        refine ⟨A44, n45, c46, hc9, ⟨hp8, by simp⟩, by omega, by omega, p, o, rfl, A49, n50, c51, hc9', ⟨hp8, by simp⟩, ?_⟩
        refine (ref_same_c hs9 hs9').mono ?_
        rintro e w10 ⟨rfl, b10⟩
        have f10 := f9.step b10
        refine ⟨_, rfl, ok_ret b10 f9, _, neq_bool .., fun hbt => ?_, fun _ => ⟨⟨k + 1, by rw [wrap_in (by omega)]; rfl, by omega, R9.below b10, ((s7.below b8).below b9).below b10⟩, by dsimp only; rw [wrap_in (by omega)]; omega⟩⟩
        have hne : ¬ G[i] = G[k] := fun hh => by rw [hh] at h23; omega
        rw [decide_eq_false hne] at hbt
        cases hbt
    · refine ⟨fun _ A n c i w' => ∃ k : Nat, i = (k : Int) ∧ k ≤ G.length ∧ RowsS w.heap.size w' (.slice A9 n10 n11) G ∧ Sl w' (fun _ => True) (.slice A n c) ((G.drop k).flatMap editB), fun _ _ _ _ i _ => (G.length - i : Int).toNat, ⟨0, rfl, Nat.zero_le _, R4, by simpa using s4⟩, ?_⟩
      rintro b15 A16 n17 n18 _ w5 f5 ⟨k, rfl, hk, R5, s5⟩
      have h17 := s5.len
      refine ⟨fun hlt => ?_, fun hge2 => ⟨fun _ => ret_leaf f5 ?_, fun hb => by cases hb⟩⟩
      · have hk' : k < G.length := by omega
        have ma := hG _ (List.getElem_mem hk')
        have hd : G.drop k = G[k] :: G.drop (k + 1) := List.drop_eq_getElem_cons hk'
        have hfd := flat_len8 (ls := G.drop k) fun x hx => hG x (List.mem_of_mem_drop hx)
        have hgd : (G.drop k).length ≤ 8 := by rw [List.length_drop]; omega
        rw [hd, List.flatMap_cons] at s5 h17
        rw [hd, List.flatMap_cons] at hfd
        have hfd2 : (editB G[k] ++ (G.drop (k + 1)).flatMap editB).length ≤ 1928 := by
          rw [hd] at hgd; omega
        have la := editB_len ma
        refine (opcodeTake_c s5 (by omega)).mono ?_
        rintro e w6 ⟨A20, n21, c22, A23, n24, c25, rfl, o6, s6, b6⟩
        rw [take_put ma] at o6 s6 ⊢
        have f6 := f5.step b6
        have h24 := s6.len
        refine ⟨A20, n21, c22, A23, n24, c25, _, rfl, ok_ret b6 f5, fun g27 hg27 w7 f7 b7 lo27 t27 => ?_⟩
        have R6 := R5.below b6
        have R7 := R6.below b7
        obtain ⟨p, o, rfl⟩ := R5.adr (by omega)
        refine ⟨[], by simp, by omega, by omega, p, o, rfl, fun w8 f8 b8 => ?_⟩
        obtain ⟨A31, n32, c33, hp7, -, -⟩ := R7.cell k hk'
        have R8 := R7.below b8
        obtain ⟨A31, n32, c33, -, hc8, hs8⟩ := R8.cell k hk'
        refine ⟨A31, n32, c33, hc8, ⟨hp7, by simp⟩, ?_⟩
        refine (ref_same_c ((o6.below b7).below b8).sl hs8).mono ?_
        rintro e w9 ⟨rfl, b9⟩
        have f9 := f8.step b9
        refine ⟨_, rfl, ok_ret b9 f8, fun hne => absurd rfl hne, fun _ => ⟨fun hb => by simp at hb, fun _ => ⟨fun hle => ?_, fun hlt3 => ⟨⟨k + 1, by rw [wrap_in (by omega)]; rfl, hk', R8.below b9, (((s6.below b7).below b8).below b9).any⟩, by dsimp only; rw [wrap_in (by omega)]; omega⟩⟩⟩⟩
        rw [List.length_append] at h17
        have h24 : n24 = ((G.drop (k + 1)).flatMap editB).length := h24
        omega
      · have : k = G.length := by omega
        subst this
        rw [List.drop_length] at h17
        have h17 : n17 = 0 := h17
        subst h17
        rfl
  · generalize hGd : goods (L.take k) = G at R3 s3 hgl
    -- behind the first loop
    have hG : ∀ l ∈ G, mayEditV l = 0 := fun l hl => by rw [← hGd] at hl; exact goods_may hl
    have h10 := R3.len
    have hfl := flat_len8 hG
    refine ⟨fun _ i w' => ∃ k : Nat, i = (k : Int) ∧ k ≤ G.length ∧ RowsS w.heap.size w' (.slice A9 n10 n11) G ∧ Sl w' (fun _ => True) (.slice A6 n7 n8) (G.flatMap editB), fun _ i _ => (G.length - i : Int).toNat, ⟨0, rfl, Nat.zero_le _, R3, s3.any⟩, ?_⟩
    rintro b13 _ w4 f4 ⟨i, rfl, hi, R4, s4⟩
    refine ⟨fun hlt => ?_, fun hge => ?_⟩
    · refine ⟨fun _ j w' => ∃ k : Nat, j = (k : Int) ∧ k ≤ i ∧ RowsS w.heap.size w' (.slice A9 n10 n11) G ∧ Sl w' (fun _ => True) (.slice A6 n7 n8) (G.flatMap editB), fun _ j _ => (i - j : Int).toNat, ⟨0, rfl, Nat.zero_le _, R4, s4⟩, ?_⟩
      rintro b15 _ w5 f5 ⟨k, rfl, hk, R5, s5⟩
      have hi' : i < G.length := by omega
      refine ⟨fun hlt2 => ?_, fun hge2 => ⟨⟨i + 1, by rw [wrap_in (by omega)]; rfl, by omega, R5, s5⟩, by dsimp only; rw [wrap_in (by omega)]; omega⟩⟩
      have hk' : k < G.length := by omega
      obtain ⟨p, o, rfl⟩ := R5.adr (by omega)
      obtain ⟨A19, n20, c21, hp, hc, hs⟩ := R5.cell i hi'
      have ma := hG _ (List.getElem_mem hi')
      have mb := hG _ (List.getElem_mem hk')
      refine ⟨by omega, by omega, p, o, rfl, A19, n20, c21, hc, ?_⟩
      refine (opcodePut_c (Sl.nil0 w5 (fun _ => True)) (by omega) hs).mono ?_
      rintro e w6 ⟨A22, n23, c24, rfl, o6, b6⟩
      rw [put_may ma] at o6
      have f6 := f5.step b6
      have R6 := R5.below b6
      obtain ⟨A28, n29, c30, hp', hc', hs'⟩ := R6.cell k hk'
      refine ⟨A22, n23, c24, _, rfl, ok_ret b6 f5, by omega, by omega, p, o, rfl, A28, n29, c30, hc', ?_⟩
      refine (opcodePut_c (Sl.nil0 w6 (fun _ => True)) (by omega) hs').mono ?_
      rintro e w7 ⟨A31, n32, c33, rfl, o7, b7⟩
      rw [put_may mb] at o7
      have f7 := f6.step b7
      have R7 := R6.below b7
      have s7 := (s5.below b6).below b7
      have o6a := o6.below b7
      have h23 : n23 = (editB G[i]).length := o6.sl.len
      have h32 : n32 = (editB G[k]).length := o7.sl.len
      refine ⟨A31, n32, c33, _, rfl, ok_ret b7 f6, [], by simp, fun hle w8 f8 b8 => ?_, fun hgt w8 f8 b8 => ?_⟩
      · obtain ⟨hr, sx⟩ := hi_b o7.sl (k := n23) (by omega)
        have R8 := R7.below b8
        refine ⟨A31, n23, c33, fun w' _ => hr w', _, fun w' k => str_of (sx.kept b8 k), _, fun w' k => str_of (o6a.sl.kept b8 k), [], by simp, by omega, by omega, p, o, rfl, fun w9 f9 b9 => ?_⟩
        have R9 := R8.below b9
        obtain ⟨A44, n45, c46, hp8, -, -⟩ := R8.cell i hi'
        obtain ⟨A44, n45, c46, hp9, hc9, hs9⟩ := R9.cell i hi'
        obtain ⟨A49, n50, c51, -, hc9', hs9'⟩ := R9.cell k hk'
        refine ⟨A44, n45, c46, hc9, ⟨hp8, by simp⟩, by omega, by omega, p, o, rfl, A49, n50, c51, hc9', ⟨hp8, by simp⟩, ?_⟩
        refine (ref_same_c hs9 hs9').mono ?_
        rintro e w10 ⟨rfl, b10⟩
        have f10 := f9.step b10
        refine ⟨_, rfl, ok_ret b10 f9, _, neq_bool .., fun hbt => ?_, fun _ => ⟨⟨k + 1, by rw [wrap_in (by omega)]; rfl, by omega, R9.below b10, ((s7.below b8).below b9).below b10⟩, by dsimp only; rw [wrap_in (by omega)]; omega⟩⟩
        have hpi := pre_inj ma mb (by omega)
        rw [eq_b, h23] at hbt
        simp [hpi] at hbt
      · have R8 := R7.below b8
        refine ⟨[], by simp, by omega, by omega, p, o, rfl, fun w9 f9 b9 => ?_⟩
        have R9 := R8.below b9
        obtain ⟨A44, n45, c46, hp8, -, -⟩ := R8.cell i hi'
        obtain ⟨A44, n45, c46, hp9, hc9, hs9⟩ := R9.cell i hi'
        obtain ⟨A49, n50, c51, -, hc9', hs9'⟩ := R9.cell k hk'
        refine ⟨A44, n45, c46, hc9, ⟨hp8, by simp⟩, by omega, by omega, p, o, rfl, A49, n50, c51, hc9', ⟨hp8, by simp⟩, ?_⟩
        refine (ref_same_c hs9 hs9').mono ?_
        rintro e w10 ⟨rfl, b10⟩
        have f10 := f9.step b10
        refine ⟨_, rfl, ok_ret b10 f9, _, neq_bool .., fun hbt => ?_, fun _ => ⟨⟨k + 1, by rw [wrap_in (by omega)]; rfl, by omega, R9.below b10, ((s7.below b8).below b9).below b10⟩, by dsimp only; rw [wrap_in (by omega)]; omega⟩⟩
        have hne : ¬ G[i] = G[k] := fun hh => by rw [hh] at h23; omega
        rw [decide_eq_false hne] at hbt
        cases hbt
    · refine ⟨fun _ A n c i w' => ∃ k : Nat, i = (k : Int) ∧ k ≤ G.length ∧ RowsS w.heap.size w' (.slice A9 n10 n11) G ∧ Sl w' (fun _ => True) (.slice A n c) ((G.drop k).flatMap editB), fun _ _ _ _ i _ => (G.length - i : Int).toNat, ⟨0, rfl, Nat.zero_le _, R4, by simpa using s4⟩, ?_⟩
      rintro b15 A16 n17 n18 _ w5 f5 ⟨k, rfl, hk, R5, s5⟩
      have h17 := s5.len
      refine ⟨fun hlt => ?_, fun hge2 => ⟨fun _ => ret_leaf f5 ?_, fun hb => by cases hb⟩⟩
      · have hk' : k < G.length := by omega
        have ma := hG _ (List.getElem_mem hk')
        have hd : G.drop k = G[k] :: G.drop (k + 1) := List.drop_eq_getElem_cons hk'
        have hfd := flat_len8 (ls := G.drop k) fun x hx => hG x (List.mem_of_mem_drop hx)
        have hgd : (G.drop k).length ≤ 8 := by rw [List.length_drop]; omega
        rw [hd, List.flatMap_cons] at s5 h17
        rw [hd, List.flatMap_cons] at hfd
        have hfd2 : (editB G[k] ++ (G.drop (k + 1)).flatMap editB).length ≤ 1928 := by
          rw [hd] at hgd; omega
        have la := editB_len ma
        refine (opcodeTake_c s5 (by omega)).mono ?_
        rintro e w6 ⟨A20, n21, c22, A23, n24, c25, rfl, o6, s6, b6⟩
        rw [take_put ma] at o6 s6 ⊢
        have f6 := f5.step b6
        have h24 := s6.len
        refine ⟨A20, n21, c22, A23, n24, c25, _, rfl, ok_ret b6 f5, fun g27 hg27 w7 f7 b7 lo27 t27 => ?_⟩
        have R6 := R5.below b6
        have R7 := R6.below b7
        obtain ⟨p, o, rfl⟩ := R5.adr (by omega)
        refine ⟨[], by simp, by omega, by omega, p, o, rfl, fun w8 f8 b8 => ?_⟩
        obtain ⟨A31, n32, c33, hp7, -, -⟩ := R7.cell k hk'
        have R8 := R7.below b8
        obtain ⟨A31, n32, c33, -, hc8, hs8⟩ := R8.cell k hk'
        refine ⟨A31, n32, c33, hc8, ⟨hp7, by simp⟩, ?_⟩
        refine (ref_same_c ((o6.below b7).below b8).sl hs8).mono ?_
        rintro e w9 ⟨rfl, b9⟩
        have f9 := f8.step b9
        refine ⟨_, rfl, ok_ret b9 f8, fun hne => absurd rfl hne, fun _ => ⟨fun hb => by simp at hb, fun _ => ⟨fun hle => ?_, fun hlt3 => ⟨⟨k + 1, by rw [wrap_in (by omega)]; rfl, hk', R8.below b9, (((s6.below b7).below b8).below b9).any⟩, by dsimp only; rw [wrap_in (by omega)]; omega⟩⟩⟩⟩
        rw [List.length_append] at h17
        have h24 : n24 = ((G.drop (k + 1)).flatMap editB).length := h24
        omega
      · have : k = G.length := by omega
        subst this
        rw [List.drop_length] at h17
        have h17 : n17 = 0 := h17
        subst h17
        rfl
end Go.Proofs.YtfjenamomipmdaaDoor
