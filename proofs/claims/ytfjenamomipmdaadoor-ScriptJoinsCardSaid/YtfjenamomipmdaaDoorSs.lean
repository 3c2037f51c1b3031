/- Ss: the tree says what the code does: code and functions. -/
import Derived.LoopN
import Derived.Test.YtfjenamomipmdaaDoorSu
set_option linter.unusedSimpArgs false
set_option linter.unusedVariables false
namespace Go.Sx
open Go Go.RowKit Go.Trc

def Ex.out : Ex → Exit
  | .normal => .normal | .exit i => .exit i | .ret => .ret

theorem HOk.cx {c c' : Cx} {L : List LC} {e : Env} {s : St} {a : Act} {wb w : World} (h : HOk c L e s a wb w) (hlim : s.lim = none) (hS : c'.S = c.S) (hw0 : c'.w0 = c.w0) : HOk c' L e s a wb w where
  env := h.env
  scope := h.scope
  lv := h.lv
  defers := h.defers
  size := h.size
  tm := h.tm
  hp := h.hp
  inj := h.inj
  own := by rw [hS, hw0]; exact h.own
  one := h.one
  fr := by rw [hS, hw0]; exact h.fr
  frame := h.frame
  fresh := h.fresh
  clean := h.clean
  known := h.known
  lim := fun m D hm => (by rw [hlim] at hm; cases hm)

theorem HOk.nolim {c : Cx} {L : List LC} {e : Env} {s : St} {a : Act} {wb w : World} (h : HOk c L e s a wb w) : HOk c L e { s with lim := none } a wb w :=
  ⟨h.env, h.scope, h.lv, h.defers, h.size, h.tm, h.hp, h.inj, h.own, h.one, h.fr, h.frame, h.fresh, h.clean, h.known, fun m D hm => (by cases hm)⟩
theorem HOk.more {c : Cx} {L : List LC} {e : Env} {s : St} {a : Act} {wb w : World} (h : HOk c L e s a wb w) (M : List LC) (n : Nat) (hn : (L ++ M).length = n) : HOk c (L ++ M) e { s with lv := n } a wb w :=
  ⟨h.env, h.scope, hn, h.defers, h.size, h.tm, h.hp, h.inj, h.own, h.one, h.fr, h.frame, h.fresh, h.clean, h.known, h.lim⟩

theorem subN_spec : ∀ {l m : List Nat}, subN l m = true → ∀ j ∈ l, memN m j = true
  | [], _, _, j, hj => by simp at hj
  | i :: l, m, h, j, hj => by
    simp only [subN, Bool.and_eq_true] at h
    rcases List.mem_cons.1 hj with rfl | hj
    · exact h.1
    · exact subN_spec h.2 j hj
theorem names_get : ∀ {h : List (Nat × TypeId × List SC)} {j : Nat}, j ∈ hpNames h → ∃ b, hpGet h j = some b
  | [], j, hj => by simp [hpNames] at hj
  | (i, t, cs) :: h, j, hj => by
    unfold hpGet
    split
    · exact ⟨_, rfl⟩
    · rename_i hij
      simp only [hpNames, List.mem_cons] at hj
      exact names_get (hj.resolve_left fun e => hij e.symm)

theorem looseSlots_lv : ∀ {l : List Nat} {s s' : St} {k : List K} {x : List LA}, looseSlots l s = some (s', k, x) → s'.lv = s.lv
  | [], s, s', k, x, h => by simp only [looseSlots, Option.some.injEq, Prod.mk.injEq] at h; rw [← h.1]
  | t :: l, s, s', k, x, h => by
    unfold looseSlots at h
    split at h
    · split at h
      · split at h
        · rename_i hr
          simp only [Option.some.injEq, Prod.mk.injEq] at h
          rw [← h.1, looseSlots_lv hr]
          unfold St.put; rfl
        · cases h
      · cases h
    · cases h
theorem looseCells_lv : ∀ {l : List (Nat × Nat)} {s s' : St} {k : List K} {x : List LA}, looseCells l s = some (s', k, x) → s'.lv = s.lv
  | [], s, s', k, x, h => by simp only [looseCells, Option.some.injEq, Prod.mk.injEq] at h; rw [← h.1]
  | (t, i) :: l, s, s', k, x, h => by
    unfold looseCells at h
    split at h
    · split at h
      · split at h
        · simp only at h
          split at h
          · rename_i hr
            simp only [Option.some.injEq, Prod.mk.injEq] at h
            rw [← h.1, looseCells_lv hr]
          · cases h
        · cases h
      · cases h
    · cases h
theorem headOf_spec {s h : St} {an : Ann} {ds : List Nat} {ks : List K} {xs : List LA} (hh : headOf s an ds = some (h, ks, xs)) : h.lv = s.lv + 1 ∧ h.fresh = [] ∧ h.wr = [] ∧ h.known = [] ∧ h.lim = none ∧ h.clean = true := by
  unfold headOf at hh
  split at hh
  · split at hh
    · simp only [Option.some.injEq, Prod.mk.injEq] at hh
      rw [← hh.1]
      exact ⟨rfl, rfl, rfl, rfl, rfl, rfl⟩
    · cases hh
  · cases hh

theorem sym_sound {ws : List FuncId} {as : List Ann} (c : Cx) : ∀ (cd : Code) {L : List LC} {e : Env} {s : St} {a : Act} {wb w : World} {k : Ex → St → Tree} {Q : Exit → Act → World → Prop}, HOk c L e s a wb w → s.lim = none →
    c.sat (sym c.P ws as cd s k) L e wb →
    (∀ M ext ex s' a' wb' w', HOk c (L ++ M) (e ++ ext) s' a' wb' w' → s'.lim = none → c.sat (k ex s') (L ++ M) (e ++ ext) wb' → Q ex.out a' w') → cd.wp c.P Q a w
  | .skip, L, e, s, a, wb, w, k, Q, h, hl, hs, HK => wp_skip (HK [] [] .normal s a wb w (by rw [List.append_nil, List.append_nil]; exact h) hl (by rw [List.append_nil, List.append_nil]; exact hs))
  | .label _, L, e, s, a, wb, w, k, Q, h, hl, hs, HK => wp_label (HK [] [] .normal s a wb w (by rw [List.append_nil, List.append_nil]; exact h) hl (by rw [List.append_nil, List.append_nil]; exact hs))
  | .exit i, L, e, s, a, wb, w, k, Q, h, hl, hs, HK => wp_exit (HK [] [] (.exit i) s a wb w (by rw [List.append_nil, List.append_nil]; exact h) hl (by rw [List.append_nil, List.append_nil]; exact hs))
  | .ret, L, e, s, a, wb, w, k, Q, h, hl, hs, HK => wp_ret (HK [] [] .ret s a wb w (by rw [List.append_nil, List.append_nil]; exact h) hl (by rw [List.append_nil, List.append_nil]; exact hs))
  | .seq x y, L, e, s, a, wb, w, k, Q, h, hl, hs, HK => by
    unfold sym at hs
    simp only at hs
    split at hs
    · refine wp_seq (sym_sound c x h hl hs fun M ext ex s' a' wb' w' h' hl' hs' => ?_)
      cases ex with
      | normal =>
        refine sym_sound c y h' hl' hs' fun M2 ext2 ex2 s2 a2 wb2 w2 h2 hl2 hs2 => ?_
        rw [List.append_assoc, List.append_assoc] at h2 hs2
        exact HK _ _ ex2 s2 a2 wb2 w2 h2 hl2 hs2
      | exit i => exact HK _ _ (.exit i) s' a' wb' w' h' hl' hs'
      | ret => exact HK _ _ .ret s' a' wb' w' h' hl' hs'
    split at hs
    · rename_i hd ks xs hhd
      split at hs
      · exact hs.elim
      · rename_i hhn
        simp only [Bool.not_eq_true', decide_eq_false_iff_not, Decidable.not_not] at hhn
        obtain ⟨hlv, hfr, hwr, hkn, hlm, hcl⟩ := headOf_spec hhd
        obtain ⟨I, m, h1, h2⟩ := hs
        have hn : e.length = s.n := h.env
        have hL : (L ++ [(⟨ks, I, m, 1⟩ : LC)]).length = s.lv + 1 := by rw [List.length_append, h.lv]; rfl
        refine wp_seq (sym_sound c x (h.more [⟨ks, I, m, 1⟩] (s.lv + 1) hL) hl h1 fun M ext ex s' a' wb' w' h' hl' hs' => ?_)
        cases ex with
        | normal =>
          simp only at hs'
          split at hs'
          · rename_i hc
            simp only [Bool.and_eq_true, decide_eq_true_eq] at hc
            obtain ⟨hf2, hk2⟩ := hc
            have hb := h'.world hs'
            unfold hasLC at hb
            have hlc : nth (L ++ [(⟨ks, I, m, 1⟩ : LC)] ++ M) s.lv = some ⟨ks, I, m, 1⟩ := by
              rw [List.append_assoc, ← h.lv]
              have := nth_app2 L ([(⟨ks, I, m, 1⟩ : LC)] ++ M) 0
              rw [Nat.add_zero] at this
              rw [this]; rfl
            rw [hlc] at hb
            simp only at hb
            have hh := head_ok (L := L ++ [⟨ks, I, m, 1⟩]) h' hn hf2 (by rw [hhn, ← hk2, List.length_map]) (by rw [hL, hlv]) hfr hwr hkn hlm
            have hr := alls_spec h2 (lasDen (e ++ ext) (bindSlots hd s' (autoAnn s x (annOf as ((Code.key y).getD 0 + 1000000))).slots ++ bindCells hd s' (autoAnn s x (annOf as ((Code.key y).getD 0 + 1000000))).cells)) (by rw [las_kind, hk2]) w' hh.fr hb.1
            have hr2 := tells_spec _ _ _ _ _ hr (fun f j t cs hm => by
              obtain ⟨g1, g2⟩ := tellOf_mem hd _ _ f j t cs hm
              refine ⟨fun hf => ?_, by simpa using hh.hp [] j t cs g2⟩
              rw [hfr] at g1
              simp only [memN] at g1
              rw [g1] at hf; cases hf)
            refine sym_sound c y hh hlm hr2 fun M2 ext2 ex2 s2 a2 wb2 w2 h3 hl2 hs2 => ?_
            rw [List.append_assoc, List.append_assoc] at h3 hs2
            exact HK _ _ ex2 s2 a2 wb2 w2 h3 hl2 hs2
          · exact hs'.elim
        | exit i =>
          rw [List.append_assoc] at h' hs'
          exact HK _ _ (.exit i) s' a' wb' w' h' hl' hs'
        | ret =>
          rw [List.append_assoc] at h' hs'
          exact HK _ _ .ret s' a' wb' w' h' hl' hs'
    · exact hs.elim
  | .block i x, L, e, s, a, wb, w, k, Q, h, hl, hs, HK => by
    refine wp_block (sym_sound c x h hl hs fun M ext ex s' a' wb' w' h' hl' hs' => ?_)
    cases ex with
    | normal => exact HK _ _ .normal s' a' wb' w' h' hl' hs'
    | exit j =>
      show (if j = i then Q .normal a' w' else Q (.exit j) a' w')
      by_cases hj : j = i
      · rw [if_pos hj]
        simp only [hj, if_true] at hs'
        exact HK _ _ .normal s' a' wb' w' h' hl' hs'
      · rw [if_neg hj]
        simp only [hj, if_false] at hs'
        exact HK _ _ (.exit j) s' a' wb' w' h' hl' hs'
    | ret => exact HK _ _ .ret s' a' wb' w' h' hl' hs'
  | .cond x y z, L, e, s, a, wb, w, k, Q, h, hl, hs, HK => by
    unfold sym at hs
    split at hs
    · rename_i b hb
      obtain ⟨v, hv, hbd⟩ := bool_den (fun l => h.ev hb l)
      obtain ⟨kn, h', hs'⟩ := split_sound h hbd hs
      refine wp_cond hv ?_
      cases v with
      | true => exact sym_sound c y h' hl hs' HK
      | false => exact sym_sound c z h' hl hs' HK
    · exact hs.elim
  | .region id ops draw, L, e, s, a, wb, w, k, Q, h, hl, hs, HK => by
    unfold sym at hs
    cases draw with
    | false =>
      simp only [Bool.false_eq_true, if_false] at hs
      refine wp_region_list (ops_sound ops.toList h hs fun ext s' a' wb' w' h' hl' hs' => ?_)
      exact HK [] ext .normal s' a' wb' w' (by rw [List.append_nil]; exact h') (hl'.trans hl) (by rw [List.append_nil]; exact hs')
    | true =>
      simp only [if_true] at hs
      split at hs
      · rename_i hc
        simp only [Bool.and_eq_true] at hc
        obtain ⟨⟨⟨hsel, hmix⟩, hnf⟩, hsub⟩ := hc
        have hin : ∀ j ∈ writes s ws ops.toList (finsOf c.P ops.toList), ∃ b, hpGet s.hp j = some b := fun j hj => names_get ((memN_iff _ _).1 (subN_spec hsub j hj))
        have hNlt : ∀ j b, hpGet s.hp j = some b → e.N j < w.heap.size := fun j b hg => by
          have := h.hp [] j b.1 b.2 hg
          rw [List.append_nil] at this
          exact (Array.getElem?_eq_some_iff.1 this).1
        let D := writes s ws ops.toList (finsOf c.P ops.toList)
        have main : ∀ (y : At) (T : List Nat), (∀ l : List At, Env.N (y :: l) 0 = w.heap.size) → (∀ l : List At, Env.L (y :: l) 0 = T) → (∀ b ∈ T, b < w.heap.size ∧ b ∉ nsDen e (hpNames s.hp)) →
            c.sat (symDraw c.P ws ops ops.toList (finsOf c.P ops.toList) ops.toList.length (Array.replicate ops.toList.length false) false { s.told 1 with clean := false, lim := some (s.n, D) } fun s => k .normal { s with lim := none }) L (e ++ [y]) w → (Code.region id ops true).wp c.P Q a w := by
          intro y T hyN hyL hT hs1
          let c' : Cx := { c with N := w.heap.size, D := T ++ nsDen e D, we := w.drew }
          have hD : ∀ l, nsDen (e ++ l) D = nsDen e D := fun l => by
            rw [ns_eq, ns_eq]
            refine List.map_congr_left fun j hj => ?_
            obtain ⟨b, hb⟩ := hin j hj
            exact h.N l hb
          have hy0 : ∀ l : List At, nth (e ++ ([y] ++ l)) s.n = some y := fun l => by
            have := nth_app2 e ([y] ++ l) 0
            rw [Nat.add_zero, h.env] at this
            rw [this]; rfl
          have h1 := (h.here [y]).cx (c' := c') hl rfl rfl
          have h2 : HOk c' L (e ++ [y]) { s.told 1 with clean := false, lim := some (s.n, D) } a w w.drew := by
            refine ⟨h1.env, h1.scope, h1.lv, h1.defers, h1.size, h1.tm, h1.hp, h1.inj, h1.own, h1.one, ⟨h1.fr.os, h1.fr.tape, h1.fr.output, h1.fr.size, h1.fr.block⟩, fun l => ⟨rfl, rfl, rfl, Nat.le_refl _, fun _ _ _ => rfl⟩, h1.fresh, fun hc => (by cases hc), h1.known, fun m D' hm => ?_⟩
            injection hm with hm
            injection hm with hm1 hm2
            subst hm1
            subst hm2
            refine ⟨fun l => ⟨?_, ?_⟩, fun _ _ _ => rfl, fun l j b hg hj => ?_, fun l j b hg hj => ?_, fun l j b hg hj => ?_, Nat.lt_succ_self _, Nat.le_refl _, fun x hx => ?_⟩
            · rw [List.append_assoc]
              have := hyN []
              unfold Env.N at this ⊢
              rw [hy0]
              exact this
            · rw [List.append_assoc, hD]
              have := hyL []
              unfold Env.L at this ⊢
              rw [hy0]
              show _ ++ nsDen e D = T ++ nsDen e D
              rw [← this]
              rfl
            · rw [List.append_assoc, h.N _ hg]; exact hNlt j b hg
            · have := h.scope j b hg; omega
            · rw [List.append_assoc, h.N _ hg]
              intro hm
              have hm' : e.N j ∈ T ++ nsDen e D := hm
              rcases List.mem_append.1 hm' with hm' | hm'
              · refine (hT _ hm').2 ?_
                rw [ns_eq]
                exact List.mem_map_of_mem (hpGet_names hg)
              rw [ns_eq] at hm'
              obtain ⟨j', hj', he⟩ := List.mem_map.1 hm'
              obtain ⟨b', hb'⟩ := hin j' hj'
              have := h.inj [] j j' b b' hg hb' (by rw [List.append_nil]; exact he.symm)
              subst this
              rw [(memN_iff _ _).2 hj'] at hj
              cases hj
            · have hx' : x ∈ T ++ nsDen e D := hx
              rcases List.mem_append.1 hx' with hx' | hx'
              · exact (hT _ hx').1
              rw [ns_eq] at hx'
              obtain ⟨j', hj', rfl⟩ := List.mem_map.1 hx'
              obtain ⟨b', hb'⟩ := hin j' hj'
              exact hNlt j' b' hb'
          have hs2 : c'.sat (symDraw c'.P ws ops ops.toList (finsOf c.P ops.toList) ops.toList.length (Array.replicate ops.toList.length false) false { s.told 1 with clean := false, lim := some (s.n, D) } fun s => k .normal { s with lim := none }) L (e ++ [y]) w := hs1
          refine wp_regionF (DS c') (finsOf c.P ops.toList) hmix ?_
          have hsz : ops.toList.length = ops.size := by simp
          rw [hsz] at hs2 hnf
          refine draw_sound (c := c') hsel no_panic (s.n, D) ops.size h2 hs2 (fun _ => ⟨hnf, rfl⟩) (fun hc => (by cases hc)) fun ext s' a' wb' w' g1 g2 => NoPanic.normal ?_
          have g3 := (g1.nolim).cx (c' := c) rfl rfl rfl
          rw [List.append_assoc] at g3 g2
          exact HK [] _ .normal { s' with lim := none } a' wb' w' (by rw [List.append_nil]; exact g3) rfl (by rw [List.append_nil]; exact g2)
        split at hs
        · obtain ⟨T, hT, hs1⟩ := h.world hs
          exact main (.r w.heap.size T) T (fun _ => rfl) (fun _ => rfl) hT hs1
        · have hs1 := h.world hs
          exact main (.n w.heap.size) [] (fun _ => rfl) (fun _ => rfl) (fun b hb => by cases hb) hs1
      · exact hs.elim
  | .loop x, L, e, s, a, wb, w, k, Q, h, hl, hs, HK => by
    unfold sym at hs
    simp only at hs
    split at hs
    · refine wp_loop_rounds (annOf as ((Code.key x).getD 0)).un ?_
      generalize (annOf as ((Code.key x).getD 0)).un = m at hs
      revert hs
      induction m generalizing L e s a wb w with
      | zero => exact fun hs => hs.elim
      | succ m ih =>
        intro hs
        show x.wp c.P _ a w
        unfold unroll at hs
        refine sym_sound c x h hl hs fun M ext ex s' a' wb' w' h' hl' hs' => ?_
        cases ex with
        | normal =>
          refine ih _ _ _ _ _ _ h' hl' (fun M2 ext2 ex2 s2 a2 wb2 w2 h2 hl2 hs2 => ?_) hs'
          rw [List.append_assoc, List.append_assoc] at h2 hs2
          exact HK _ _ ex2 s2 a2 wb2 w2 h2 hl2 hs2
        | exit i => exact HK _ _ (.exit i) s' a' wb' w' h' hl' hs'
        | ret => exact HK _ _ .ret s' a' wb' w' h' hl' hs'
    split at hs
    · rename_i hd ks xs hhd
      split at hs
      · exact hs.elim
      · rename_i hfit
        simp only [Bool.not_eq_true', Bool.not_eq_false, Bool.and_eq_true, decide_eq_true_eq] at hfit
        obtain ⟨⟨hfit, hkx⟩, hhn⟩ := hfit
        obtain ⟨hlv, hfr, hwr, hkn, hlm, hcl⟩ := headOf_spec hhd
        obtain ⟨I, m, hinit, hround⟩ := hs
        have hxl : xs.length = ks.length := by rw [← hkx, List.length_map]
        have hI0 := h.world hinit
        have hL : ∀ n, (L ++ [(⟨ks, I, m, n⟩ : LC)]).length = hd.lv := fun n => by rw [List.length_append, h.lv, hlv]; rfl
        have hn : e.length = s.n := h.env
        refine wp_loop_ghost (fun n a w => ∃ l : List At, l.map At.kind = ks ∧ HOk c (L ++ [⟨ks, I, m, n⟩]) (e ++ l) hd a w w ∧ capp ks I l w ∧ capp ks m l w = n) (capp ks m (lasDen e xs) w) ⟨lasDen e xs, by rw [las_kind, hkx], ?_, hI0, rfl⟩ ?_
        · have h0 : HOk c L (e ++ []) s a wb w := by rw [List.append_nil]; exact h
          have := head_ok (L := L ++ [⟨ks, I, m, capp ks m (lasDen e xs) w⟩]) (ys := xs) h0 hn hfit (by rw [hhn, hxl]) (hL _) hfr hwr hkn hlm
          rw [List.append_nil] at this
          exact this
        · intro n a w hI
          obtain ⟨l, hkl, hh, hIl, hml⟩ := hI
          have hr := alls_spec hround l hkl w hh.fr hIl
          have hr2 := tells_spec _ _ _ _ _ hr (fun f j t cs hm => by
            obtain ⟨g1, g2⟩ := tellOf_mem hd _ _ f j t cs hm
            refine ⟨fun hf => ?_, by simpa using hh.hp [] j t cs g2⟩
            rw [hfr] at g1
            simp only [memN] at g1
            rw [g1] at hf; cases hf)
          rw [hml] at hr2
          refine sym_sound c x hh hlm hr2 fun M ext ex s' a' wb' w' h' hl' hs' => ?_
          cases ex with
          | normal =>
            simp only at hs'
            split at hs'
            · rename_i hc
              simp only [Bool.and_eq_true, decide_eq_true_eq] at hc
              obtain ⟨hf2, hk2⟩ := hc
              have hb := h'.world hs'
              unfold hasLC at hb
              have hlc : nth (L ++ [(⟨ks, I, m, n⟩ : LC)] ++ M) s.lv = some ⟨ks, I, m, n⟩ := by
                rw [List.append_assoc, ← h.lv]
                have := nth_app2 L ([(⟨ks, I, m, n⟩ : LC)] ++ M) 0
                rw [Nat.add_zero] at this
                rw [this]; rfl
              rw [hlc] at hb
              simp only at hb
              refine ⟨_, hb.2, lasDen (e ++ l ++ ext) _, by rw [las_kind, hk2], ?_, hb.1, rfl⟩
              have h3 : HOk c (L ++ [⟨ks, I, m, n⟩] ++ M) (e ++ (l ++ ext)) s' a' wb' w' := by rw [← List.append_assoc]; exact h'
              have := head_ok (L := L ++ [⟨ks, I, m, capp ks m (lasDen (e ++ (l ++ ext)) (bindSlots hd s' (autoAnn s x (annOf as ((Code.key x).getD 0))).slots ++ bindCells hd s' (autoAnn s x (annOf as ((Code.key x).getD 0))).cells)) w'⟩]) h3 hn hf2 (by rw [hhn, ← hk2, List.length_map]) (hL _) hfr hwr hkn hlm
              rw [List.append_assoc e l ext]
              exact this
            · exact hs'.elim
          | exit i =>
            refine HK ([⟨ks, I, m, n⟩] ++ M) (l ++ ext) (.exit i) s' a' wb' w' ?_ hl' ?_
            · rw [← List.append_assoc, ← List.append_assoc]; exact h'
            · rw [← List.append_assoc, ← List.append_assoc]; exact hs'
          | ret =>
            refine HK ([⟨ks, I, m, n⟩] ++ M) (l ++ ext) .ret s' a' wb' w' ?_ hl' ?_
            · rw [← List.append_assoc, ← List.append_assoc]; exact h'
            · rw [← List.append_assoc, ← List.append_assoc]; exact hs'
    · exact hs.elim
  | .rangeFunc _ _ _ _, L, e, s, a, wb, w, k, Q, h, hl, hs, HK => by unfold sym at hs; exact hs.elim
  | .scope _, L, e, s, a, wb, w, k, Q, h, hl, hs, HK => by unfold sym at hs; exact hs.elim
  | .goto _, L, e, s, a, wb, w, k, Q, h, hl, hs, HK => by unfold sym at hs; exact hs.elim
  | .refuse _, L, e, s, a, wb, w, k, Q, h, hl, hs, HK => by unfold sym at hs; exact hs.elim
/-! ### Functions -/
def resSem (tmps : Array Value) : ResultVar → Sem Value
  | .tmp t => pure (tmps.getD t undef)
  | .cell a t => do loadVar t (← asAddr (tmps.getD a undef))
theorem results_eq (fn : Func) (tmps : Array Value) : results fn tmps = (do let vs ← fn.results.mapM (resSem tmps); pure (if h : vs.size = 1 then vs[0] else .tuple vs)) := by
  unfold results
  congr 1
theorem result_sound {c : Cx} {L : List LC} {e : Env} {s : St} {a : Act} {wb w : World} (h : HOk c L e s a wb w) {r : ResultVar} {v : SV} (hr : resultOf c.P s r = some v) :
    (resSem a.tmps r).run c.P w = .ok (v.den e) w := by
  cases r with
  | tmp t =>
    have := h.tm [] t v hr
    rw [List.append_nil] at this
    simp only [resSem, Sem.run_pure, this]
  | cell x t =>
    unfold resultOf at hr
    simp only at hr
    split at hr
    · rename_i j off hx
      have hx0 := h.tm [] x _ hx
      rw [List.append_nil] at hx0
      split at hr
      · rename_i t0 cs hg
        have hblk := h.hp [] j t0 cs hg
        rw [List.append_nil] at hblk
        have key : ∀ r, (Instr.loadAt t (.pointer (some ⟨e.N j, off, none⟩))).run c.P w = .ok r w → (resSem a.tmps (.cell x t)).run c.P w = .ok r w := fun r hr => by
          simp only [Instr.loadAt, Instr.sureAddr, Sem.run_bind, Sem.run_pure, Result.andThen_ok] at hr
          simp only [resSem, hx0, SV.den, SC.den, asAddr, Sem.run_bind, Sem.run_pure, Result.andThen_ok, hr]
        refine key _ ?_
        split at hr
        · rename_i hagg
          split at hr
          · rename_i i hi
            split at hr
            · rename_i hle
              injection hr with hr
              subst hr
              have := load_cells (P := c.P) (w := w) (b := e.N j) (o := off) (cs := ((cellsDen e cs).drop off).take i.size) hi hagg (by rw [List.length_take, List.length_drop, cells_len]; omega) (fun j' v' hv' => cell_of_block hblk (take_drop_get _ _ _ _ hv'))
              rw [this]
              congr 2
              simp only [SV.den, cells_eq, List.map_take, List.map_drop]
            · cases hr
          · cases hr
        · rename_i hagg
          have hagg' : isAggB c.P t = false := by simpa using hagg
          split at hr
          · rename_i d x' hd hn
            injection hr with hr
            subst hr
            exact load_cell hd hagg' (cell_of_block hblk (by rw [cells_nth, hn]; rfl))
          · cases hr
      · cases hr
    · cases hr

theorem results_sound {c : Cx} {L : List LC} {e : Env} {s : St} {a : Act} {wb w : World} (h : HOk c L e s a wb w) : ∀ {l : List ResultVar} {vs : List SV}, resultsOf c.P s l = some vs →
    (l.mapM (resSem a.tmps)).run c.P w = .ok (svsDen e vs) w
  | [], vs, hr => by simp only [resultsOf, Option.some.injEq] at hr; subst hr; rfl
  | r :: l, vs, hr => by
    unfold resultsOf at hr
    split at hr
    · rename_i v m hv hm
      injection hr with hr; subst hr
      have h1 := result_sound h hv
      have h2 := results_sound h hm
      simp only [List.mapM_cons, Sem.run_bind, h1, h2, Result.andThen_ok, Sem.run_pure, svsDen]
    · cases hr

theorem compsOfV_den (e : Env) : ∀ {l : List SV} {cs : List (Bool × List SC)}, compsOfV l = some cs → compsDen e cs = svsDen e l
  | [], cs, h => by simp only [compsOfV, Option.some.injEq] at h; subst h; rfl
  | v :: l, cs, h => by
    unfold compsOfV at h
    split at h
    · rename_i p m hp hm
      injection h with h; subst h
      simp only [compsDen, svsDen, compsOfV_den e hm]
      congr 1
      cases v <;> simp only [compOf, Option.some.injEq] at hp
      · subst hp; rfl
      · subst hp; rfl
      · cases hp
    · cases h

theorem ret_sound {c : Cx} {L : List LC} {e : Env} {s : St} {a : Act} {wb w : World} (h : HOk c L e s a wb w) {fn : Func} (hs : c.sat (retOf c.P fn s) L e wb) :
    ∃ v, (results fn a.tmps).run c.P w = .ok v w ∧ c.R (.returned v) w := by
  unfold retOf at hs
  have hres : ∀ vs, resultsOf c.P s fn.results.toList = some vs → (results fn a.tmps).run c.P w = .ok (if h : (svsDen e vs).toArray.size = 1 then (svsDen e vs).toArray[0] else .tuple (svsDen e vs).toArray) w := fun vs hv => by
    rw [results_eq, Array.mapM_eq_mapM_toList]
    simp only [Sem.run_bind, Sem.run_map]
    have := results_sound h hv
    rw [this]
    simp only [Result.andThen_ok, Sem.run_pure]
  split at hs
  · rename_i v hv
    have := hres _ hv
    refine ⟨v.den e, ?_, h.world hs⟩
    rw [this]
    rfl
  · rename_i vs hne hv
    split at hs
    · rename_i cs hcs
      have := hres _ hv
      refine ⟨_, ?_, h.world hs⟩
      rw [this]
      simp only [SV.den, compsOfV_den e hcs]
      rw [dif_neg]
      intro hsz
      rw [List.size_toArray, svs_eq, List.length_map] at hsz
      obtain ⟨x, rfl⟩ := List.length_eq_one_iff.1 hsz
      exact hne x rfl
    · exact hs.elim
  · exact hs.elim

/-- A function, out of its tree. -/
theorem fn_sound {P : Program} {S : Nat → Prop} {w0 : World} {R : Ending → World → Prop} {ws : List FuncId} {an : List Ann} {f : FuncId} {n : Nat} {xs : List SV} {hp : List (Nat × TypeId × List SC)} {e : Env} (hn : e.length = n)
    (hxs : ∀ l, svsDen (e ++ l) xs = svsDen e xs) (hcs : ∀ l, ∀ b ∈ hp, cellsDen (e ++ l) b.2.2 = cellsDen e b.2.2)
    (hhp : ∀ j t cs, hpGet hp j = some (t, cs) → j < n ∧ w0.heap[e.N j]? = some (.cells (cellsDen e cs).toArray t (0, 0)) ∧ S (e.N j) ∧ ∀ u ∈ cellsDen e cs, u.oneCell' = true)
    (hinj : ∀ j j' b b', hpGet hp j = some b → hpGet hp j' = some b' → e.N j = e.N j' → j = j')
    (hs : sat P S w0 R (symFn P ws an f n xs hp) [] e w0) : Calls P f (svsDen e xs).toArray w0 R := by
  unfold symFn at hs
  split at hs
  · rename_i fn hf
    split at hs
    · rename_i cd hb
      let c : Cx := ⟨P, S, w0, R, 0, [], w0⟩
      have hgetmem : ∀ {h : List (Nat × TypeId × List SC)} {j t cs}, hpGet h j = some (t, cs) → (j, t, cs) ∈ h := by
        intro h
        induction h with
        | nil => intro j t cs hg; cases hg
        | cons b h ih =>
          intro j t cs hg
          obtain ⟨i, ti, ci⟩ := b
          unfold hpGet at hg
          split at hg
          · rename_i hij; simp only [Option.some.injEq, Prod.mk.injEq] at hg; obtain ⟨rfl, rfl⟩ := hg; subst hij; simp
          · exact List.mem_cons_of_mem _ (ih hg)
      have hlen : (svsDen e xs).length = xs.length := by rw [svs_eq, List.length_map]
      have h0 : HOk c [] e { tm := xs.map some ++ List.replicate (fn.ntmps - xs.length) (some (.one .undef)), hp := hp, fresh := [], wr := [], clean := true, known := [], n := n, lv := 0, lim := none, ta := an.any fun a => a.key == 999999 }
          { tmps := (svsDen e xs).toArray ++ Array.replicate (fn.ntmps - (svsDen e xs).toArray.size) undef, defers := [] } w0 w0 := by
        refine ⟨hn, fun j b hg => (hhp j b.1 b.2 hg).1, rfl, rfl, by simp [hlen], fun l t v ht => ?_, fun l j t cs hg => ?_, fun l j j' b b' hg hg' => ?_, fun l j b hg => ?_, fun l j t cs hg => ?_, Fr.refl _ _, fun l => Fr.refl _ _,
          fun l j hj => (by cases hj), fun _ => rfl, fun l b v hm => (by cases hm), fun m D hm => (by cases hm)⟩
        · rw [St.get_spec, nth_eq] at ht
          simp only at ht
          rw [Array.getD_eq_getD_getElem?, Array.getElem?_append]
          simp only [List.size_toArray, hlen]
          by_cases htl : t < xs.length
          · rw [if_pos htl]
            rw [List.getElem?_append_left (by simpa using htl), List.getElem?_map] at ht
            have hv : xs[t]? = some v := by
              cases hq : xs[t]? with
              | none => rw [hq] at ht; cases ht
              | some u => rw [hq] at ht; simp only [Option.map_some, Option.some.injEq] at ht; rw [ht]
            rw [List.getElem?_toArray, ← hxs l, svs_eq, List.getElem?_map, hv]
            rfl
          · rw [if_neg htl]
            rw [List.getElem?_append_right (by simpa using htl)] at ht
            simp only [List.length_map] at ht
            have hu : v = .one .undef := by
              have := List.mem_of_getElem? ht
              rw [List.mem_replicate] at this
              injection this.2
            subst hu
            rw [Array.getElem?_replicate]
            split <;> rfl
        · obtain ⟨h1, h2, h3, h4⟩ := hhp j t cs hg
          rw [N_app e l j (by omega), hcs l _ (hgetmem hg)]
          exact h2
        · rw [N_app e l j (by have := (hhp j b.1 b.2 hg).1; omega), N_app e l j' (by have := (hhp j' b'.1 b'.2 hg').1; omega)]
          exact hinj j j' b b' hg hg'
        · obtain ⟨h1, h2, h3, h4⟩ := hhp j b.1 b.2 hg
          rw [N_app e l j (by omega)]
          exact .inr h3
        · obtain ⟨h1, h2, h3, h4⟩ := hhp j t cs hg
          rw [hcs l _ (hgetmem hg)]
          exact h4
      refine calls_of_wp hf hb (sym_sound c cd h0 rfl hs fun M ext ex s' a' wb' w' h' hl' hs' => ?_)
      cases ex with
      | normal => exact ⟨h'.defers, ret_sound h' hs'⟩
      | ret => exact ⟨h'.defers, ret_sound h' hs'⟩
      | exit i => exact hs'.elim
    · exact hs.elim
  · exact hs.elim

/-- Arguments that are letters. -/
def okVs (n : Nat) : List SV → Bool
  | [] => true
  | v :: l => okV n v && okVs n l
theorem okVs_den {n : Nat} {e : Env} (l : Env) (he : n ≤ e.length) : ∀ {xs : List SV}, okVs n xs = true → svsDen (e ++ l) xs = svsDen e xs
  | [], _ => rfl
  | v :: xs, h => by
    simp only [okVs, Bool.and_eq_true] at h
    simp only [svsDen, okV_den l he h.1, okVs_den l he h.2]
theorem fn_sound0 {P : Program} {S : Nat → Prop} {w0 : World} {R : Ending → World → Prop} {ws : List FuncId} {an : List Ann} {f : FuncId} {n : Nat} {xs : List SV} {e : Env} (hn : e.length = n) (hok : okVs n xs = true)
    (hs : sat P S w0 R (symFn P ws an f n xs []) [] e w0) : Calls P f (svsDen e xs).toArray w0 R :=
  fn_sound hn (fun l => okVs_den l (by omega) hok) (fun l b hb => by simp at hb) (fun j t cs hg => by cases hg) (fun j j' b b' hg => by cases hg) hs
/-- .. of which one argument leads to a block that is known. -/
theorem fn_sound1 {P : Program} {S : Nat → Prop} {w0 : World} {R : Ending → World → Prop} {ws : List FuncId} {an : List Ann} {f : FuncId} {n : Nat} {xs : List SV} {e : Env} {j : Nat} {t : TypeId} {cs : List SC} (hn : e.length = n) (hok : okVs n xs = true)
    (hj : j < n) (hokc : okL n cs = true) (hnv : noVal cs = true) (hS : S (e.N j)) (hb : w0.heap[e.N j]? = some (.cells (cellsDen e cs).toArray t (0, 0)))
    (hs : sat P S w0 R (symFn P ws an f n xs [(j, t, cs)]) [] e w0) : Calls P f (svsDen e xs).toArray w0 R :=
  fn_sound hn (fun l => okVs_den l (by omega) hok) (fun l b hb => by simp at hb; subst hb; exact okL_den l (by omega) hokc)
    (fun i t' cs' hg => by
      unfold hpGet at hg
      split at hg
      · rename_i hij
        subst hij
        simp only [Option.some.injEq, Prod.mk.injEq] at hg
        obtain ⟨rfl, rfl⟩ := hg
        exact ⟨hj, hb, hS, noVal_one e hnv⟩
      · cases hg)
    (fun i i' b b' hg hg' _ => by
      unfold hpGet at hg hg'
      split at hg
      · split at hg'
        · omega
        · cases hg'
      · cases hg) hs
end Go.Sx
