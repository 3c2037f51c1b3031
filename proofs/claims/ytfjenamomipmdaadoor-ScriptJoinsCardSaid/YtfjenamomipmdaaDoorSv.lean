/- Sv: the tree says what the code does (regions, code, loops, functions). -/
import Derived.Test.YtfjenamomipmdaaDoorSw
import Derived.Deep.LoopGhost
set_option linter.unusedSimpArgs false
set_option linter.unusedVariables false
namespace Go.Sx
open Go Go.RowKit Go.Trc
variable {c : Cx} {L : List LC} {e : Env} {s : St} {a : Act} {wb w : World} {o : Oper} {ws : List FuncId} {k : St → Tree}

theorem Doing.ext {s1 : St} {K : Act → World → Prop} (h : Doing c L e s k K) (x : Env) (hl : s1.lim = s.lim) : Doing c L (e ++ x) s1 k K := fun ext s' a' wb' w' h1 h2 h3 => by
  rw [List.append_assoc] at h1 h3
  exact h _ s' a' wb' w' h1 (h2.trans hl) h3

theorem get_at (h : HOk c L e s a wb w) {t : Nat} {v : SV} (hg : s.get t = some v) : a.tmps[t]? = some (v.den e) := by
  have h1 := h.tm [] t v hg
  rw [List.append_nil] at h1
  rw [St.get_spec, nth_eq] at hg
  have hlt : t < a.tmps.size := by rw [h.size]; exact (List.getElem?_eq_some_iff.1 hg).1
  rw [Array.getD_eq_getD_getElem?, Array.getElem?_eq_getElem hlt] at h1
  rw [Array.getElem?_eq_getElem hlt]
  simpa using h1

theorem guarded_sound {ops : Array Oper} {k : Bool → St → Tree} (h : HOk c L e s a wb w) (hs : c.sat (guarded ops.toList o.guard s k) L e wb) :
    ∃ kn, HOk c L e { s with known := kn } a wb w ∧ c.sat (k (Region.wanted o (yielded ops a.tmps)) { s with known := kn }) L e wb := by
  unfold guarded at hs
  unfold Region.wanted
  split at hs
  · rename_i hg
    rw [hg]
    exact ⟨s.known, h, hs⟩
  · rename_i j want hg
    rw [hg]
    simp only
    split at hs
    · rename_i q hq
      rw [nth_eq, Array.getElem?_toList] at hq
      split at hs
      · rename_i t ht
        split at hs
        · rename_i b hb
          obtain ⟨v, hv, hbd⟩ := bool_den (fun l => h.ev (x := .tmp t) hb l)
          obtain ⟨kn, h', hs'⟩ := split_sound h hbd hs
          refine ⟨kn, h', ?_⟩
          have hy : yielded ops a.tmps j = some v := by
            have := get_at h hb
            have h0 : SV.den e (.one (.bool b)) = .bool v := by
              have := hbd []; rw [List.append_nil] at this; simp only [SV.den, SC.den, this]
            rw [h0] at this
            simp only [yielded, hq, Option.bind_some, ht, this]
          rw [hy]
          have he : (some v == some want) = (v == want) := by cases v <;> cases want <;> rfl
          rw [he]
          exact hs'
        · rename_i hb
          refine ⟨s.known, h, ?_⟩
          have hy : yielded ops a.tmps j = none := by
            have := get_at h hb
            have h0 : SV.den e (.one .undef) = Go.undef := rfl
            rw [h0] at this
            simp only [yielded, hq, Option.bind_some, ht, this, Go.undef]
          rw [hy]
          exact hs
        · exact hs.elim
      · exact hs.elim
    · exact hs.elim

theorem ops_sound {ops : Array Oper} {Q : Exit → Act → World → Prop} : ∀ (l : List Oper) {e : Env} {s : St} {a : Act} {wb w : World}, HOk c L e s a wb w → c.sat (symOps c.P ws ops.toList l s k) L e wb → Doing c L e s k (Q .normal) →
    wpList c.P ops Q l a w
  | [], e, s, a, wb, w, h, hs, hK => hK [] s a wb w (by rw [List.append_nil]; exact h) rfl (by rw [List.append_nil]; exact hs)
  | o :: l, e, s, a, wb, w, h, hs, hK => by
    unfold symOps at hs
    obtain ⟨kn, h', hs'⟩ := guarded_sound h hs
    unfold wpList
    by_cases hw : Region.wanted o (yielded ops a.tmps) = true
    · rw [if_pos hw]
      simp only [hw, if_true] at hs'
      refine .inl (op_sound h' hs' fun ext s1 a1 wb1 w1 g1 g2 g3 => ?_)
      exact ops_sound l g1 g3 (hK.ext ext g2)
    · rw [if_neg hw]
      simp only [hw, if_false, Bool.false_eq_true] at hs'
      exact ops_sound l (h'.put o.dst (v := .one .undef) (fun _ => rfl)) hs' (fun ext s' a' wb' w' h1 h2 h3 => hK ext s' a' wb' w' h1 (h2.trans (put_lim _ _ _)) h3)

/-! ### Open orders -/
theorem findI_spec {p : Nat → Bool} : ∀ {l : List Nat} {i : Nat}, findI p l = some i → i ∈ l ∧ p i = true
  | [], i, h => by cases h
  | j :: l, i, h => by
    unfold findI at h
    split at h
    · rename_i hp; injection h with h; subst h; exact ⟨by simp, hp⟩
    · obtain ⟨h1, h2⟩ := findI_spec h; exact ⟨List.mem_cons_of_mem _ h1, h2⟩

theorem allOf_spec {P : Program} {S : Nat → Prop} {w0 : World} {R : Ending → World → Prop} {L : List LC} {e : Env} {wb : World} : ∀ {l : List Tree}, sat P S w0 R (allOf l) L e wb → l ≠ [] ∧ ∀ t ∈ l, sat P S w0 R t L e wb
  | [], h => h.elim
  | [t], h => ⟨by simp, fun t' ht => by simp at ht; subst ht; exact h⟩
  | t :: u :: l, h => by
    obtain ⟨h1, h2⟩ := h
    obtain ⟨_, h3⟩ := allOf_spec (l := u :: l) h2
    exact ⟨by simp, fun t' ht => by rcases List.mem_cons.1 ht with rfl | ht; exact h1; exact h3 t' ht⟩

/-- In an open order: the world is one that keeps what is below N, till one of the last has come up. -/
def DS (c : Cx) (w : World) : Prop := Keep c.N c.D c.we w

theorem draw_sound {opa : Array Oper} {fin : List Nat} {Q : Exit → Act → World → Prop} (hsel : Region.noSelect opa = true) (hQ : ∀ c a w, ¬ Q (.panic c) a w) (m0 : Nat × List Nat) :
    ∀ (n : Nat) {listed : Array Bool} {fd : Bool} {e : Env} {s : St} {a : Act} {wb w : World}, HOk c L e s a wb w → c.sat (symDraw c.P ws opa opa.toList fin n listed fd s k) L e wb →
      (fd = false → noFin fin listed = true ∧ s.lim = some m0) → (fd = true → noFin fin listed = false) →
      (∀ ext s' a' wb' w', HOk c L (e ++ ext) s' a' wb' w' → c.sat (k s') L (e ++ ext) wb' → Q .normal a' w') → wpF c.P .any opa Q (DS c) fin n listed a w
  | 0, listed, fd, e, s, a, wb, w, h, hs, h1, h2, hK => by
    unfold symDraw at hs
    split at hs
    · rename_i hr
      exact wpF_done hr (hK [] s a wb w (by rw [List.append_nil]; exact h) (by rw [List.append_nil]; exact hs))
    · exact hs.elim
  | n + 1, listed, fd, e, s, a, wb, w, h, hs, h1, h2, hK => by
    have hS : noFin fin listed = false ∨ DS c w := by
      cases hfd : fd with
      | true => exact .inl (h2 hfd)
      | false => exact .inr ((h.lim m0.1 m0.2 (h1 hfd).2).keep)
    have hnf : ∀ {i : Nat}, memN fin i = false → noFin fin (listed.setIfInBounds i true) = noFin fin listed := fun {i} hi => by
      have hi' : i ∉ fin := fun hm => by rw [(memN_iff _ _).2 hm] at hi; cases hi
      cases hb : noFin fin listed with
      | true => exact noFin_set hi' hb
      | false =>
        cases hb2 : noFin fin (listed.setIfInBounds i true) with
        | false => rfl
        | true => rw [noFin_of_set hb2] at hb; cases hb
    unfold symDraw at hs
    simp only at hs
    split at hs
    · rename_i hr
      exact wpF_done hr (hK [] s a wb w (by rw [List.append_nil]; exact h) (by rw [List.append_nil]; exact hs))
    · split at hs
      · -- one that only looks
        rename_i i hfi
        obtain ⟨hmem, hmay⟩ := findI_spec hfi
        unfold mayTake at hmay
        split at hs
        · rename_i o hoi
          rw [hoi] at hmay
          simp only [Bool.and_eq_true, Bool.not_eq_true'] at hmay
          obtain ⟨⟨hfree, hnfin⟩, hkind⟩ := hmay
          have hoi' : opa[i]? = some o := by rw [nth_eq, Array.getElem?_toList] at hoi; exact hoi
          have hready : (Region.ready .any opa listed).contains i = true := by simpa using hmem
          have hcont : fin.contains i = false := by
            have : i ∉ fin := fun hm => by rw [(memN_iff _ _).2 hm] at hnfin; cases hnfin
            simpa using this
          obtain ⟨kn, h', hs'⟩ := guarded_sound (ops := opa) h hs
          by_cases hw : Region.wanted o (yielded opa a.tmps) = true
          · simp only [hw, if_true] at hs'
            split at hs'
            · rename_i hk2
              have hstep : ∀ {G : World → Prop}, Still c L e { s with known := kn } a wb w o (fun s => symDraw c.P ws opa opa.toList fin n (listed.setIfInBounds i true) fd s k) G →
                  ∃ v, (∀ w', G w' → (execOp a.eval o).run c.P w' = .ok (.value v) w') ∧ wpF c.P .any opa Q (DS c) fin n (listed.setIfInBounds i true) (a.put o.dst v) w := fun {G} hst => by
                obtain ⟨ext, s', v, wb', hr, g1, g2, g3⟩ := hst
                refine ⟨v, hr, draw_sound hsel hQ m0 n g1 g3 (fun hf => ⟨by rw [hnf hnfin]; exact (h1 hf).1, g2.trans (h1 hf).2⟩) (fun hf => by rw [hnf hnfin]; exact h2 hf) fun ext' s'' a'' wb'' w'' q1 q2 => ?_⟩
                rw [List.append_assoc] at q1 q2
                exact hK _ s'' a'' wb'' w'' q1 q2
              rw [Bool.or_eq_true] at hk2
              rcases hk2 with hk2 | hk2
              · obtain ⟨v, hv, hrest⟩ := hstep (pure_sound h' (by simpa [pureOp, St.ev] using hk2) hs' (fun _ => True))
                exact wpF_take0 i hoi' hsel hfree hready hcont hQ hS hw ⟨v, fun w' => hv w' trivial, hrest⟩
              · simp only [Bool.and_eq_true, Bool.not_eq_true'] at hk2
                obtain ⟨⟨hfd, hlk⟩, hfw⟩ := hk2
                have hlim := (h1 hfd).2
                obtain ⟨v, hv, hrest⟩ := hstep (look_sound h' (by simpa [lookOp] using hlk) hs' (G := DS c) (fun w' hw' => ⟨fun hn => (by rw [show ({ s with known := kn } : St).lim = s.lim from rfl, hlim] at hn; cases hn), fun m D hm => hw'⟩))
                exact wpF_take i hoi' hsel hfree hready hfw (h1 hfd).1 hQ (hS.resolve_left (by rw [(h1 hfd).1]; decide)) hw ⟨v, hv, hrest⟩
            · exact hs'.elim
          · simp only [hw, if_false, Bool.false_eq_true] at hs'
            refine wpF_skip i hoi' hsel hfree hready hcont hQ hS (by simpa using hw) ?_
            exact draw_sound hsel hQ m0 n (h'.put o.dst (v := .one .undef) (fun _ => rfl)) hs' (fun hf => ⟨by rw [hnf hnfin]; exact (h1 hf).1, (put_lim _ _ _).trans (h1 hf).2⟩) (fun hf => by rw [hnf hnfin]; exact h2 hf) hK
        · exact hs.elim
      · -- those that may come up
        obtain ⟨_, hall⟩ := allOf_spec hs
        refine ⟨fun hr => ?_, fun i hi => ?_⟩
        · rename_i hne _ _ _; exact (hne hr).elim
        · have hs := hall _ (List.mem_map_of_mem hi)
          have hset : (listed.setIfInBounds i true).getD i true = true := by
            rw [Array.getD_eq_getD_getElem?, Array.getElem?_setIfInBounds]
            by_cases hlt : i < listed.size <;> simp [hlt]
          have hfin : memN fin i = true → noFin fin (listed.setIfInBounds i true) = false := fun hm => by
            unfold noFin
            rw [Bool.eq_false_iff]
            intro hall
            have := List.all_eq_true.1 hall i ((memN_iff _ _).1 hm)
            rw [hset] at this
            cases this
          have hback : noFin fin listed = false → noFin fin (listed.setIfInBounds i true) = false := fun hb => by
            cases hb2 : noFin fin (listed.setIfInBounds i true) with
            | false => rfl
            | true => rw [noFin_of_set hb2] at hb; cases hb
          have hfd' : (fd || memN fin i) = true → noFin fin (listed.setIfInBounds i true) = false := fun hf => by
            rw [Bool.or_eq_true] at hf
            rcases hf with hf | hf
            · exact hback (h2 hf)
            · exact hfin hf
          have hnfd : (fd || memN fin i) = false → noFin fin (listed.setIfInBounds i true) = true ∧ s.lim = some m0 := fun hf => by
            rw [Bool.or_eq_false_iff] at hf
            exact ⟨by rw [hnf hf.2]; exact (h1 hf.1).1, (h1 hf.1).2⟩
          split at hs
          · rename_i o hoi
            have hoi' : opa[i]? = some o := by rw [nth_eq, Array.getElem?_toList] at hoi; exact hoi
            obtain ⟨kn, h', hs'⟩ := guarded_sound (ops := opa) h hs
            unfold wpOp
            simp only [hoi']
            by_cases hw : Region.wanted o (yielded opa a.tmps) = true
            · simp only [hw, if_true] at hs' ⊢
              refine .inl ?_
              cases hf : (fd || memN fin i) with
              | true =>
                simp only [hf, if_true] at hs'
                have h'' : HOk c L e { s with known := kn, lim := none } a wb w := ⟨h'.env, h'.scope, h'.lv, h'.defers, h'.size, h'.tm, h'.hp, h'.inj, h'.own, h'.one, h'.fr, h'.frame, h'.fresh, h'.clean, h'.known, fun m D hm => (by cases hm)⟩
                refine op_sound h'' hs' fun ext s' a' wb' w' g1 g2 g3 => ⟨fun hn => (by rw [hfd' hf] at hn; cases hn), ?_⟩
                refine draw_sound hsel hQ m0 n g1 g3 (fun hc => (by cases hc)) (fun _ => hfd' hf) fun ext' s'' a'' wb'' w'' q1 q2 => ?_
                rw [List.append_assoc] at q1 q2
                exact hK _ s'' a'' wb'' w'' q1 q2
              | false =>
                simp only [hf, if_false, Bool.false_eq_true] at hs'
                refine op_sound h' hs' fun ext s' a' wb' w' g1 g2 g3 => ⟨fun _ => (g1.lim m0.1 m0.2 (g2.trans (hnfd hf).2)).keep, ?_⟩
                refine draw_sound hsel hQ m0 n g1 g3 (fun _ => ⟨(hnfd hf).1, g2.trans (hnfd hf).2⟩) (fun hc => (by cases hc)) fun ext' s'' a'' wb'' w'' q1 q2 => ?_
                rw [List.append_assoc] at q1 q2
                exact hK _ s'' a'' wb'' w'' q1 q2
            · simp only [hw, if_false, Bool.false_eq_true] at hs' ⊢
              have h3 := h'.put o.dst (v := .one .undef) (x := Go.undef) (fun _ => rfl)
              refine ⟨fun hn => hS.resolve_left (fun hb => (by rw [hback hb] at hn; cases hn)), ?_⟩
              exact draw_sound hsel hQ m0 n h3 hs' (fun hf => ⟨(hnfd hf).1, (put_lim _ _ _).trans (hnfd hf).2⟩) hfd' hK
          · exact hs.elim
end Go.Sx
