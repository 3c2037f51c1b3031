/- Su: the tree says what the code does (loops' heads, code, functions). -/
import Derived.Test.YtfjenamomipmdaaDoorSv
set_option linter.unusedSimpArgs false
set_option linter.unusedVariables false
namespace Go.Sx
open Go Go.RowKit Go.Trc

/-! ### Letters of a loop -/
def At.kind : At → K
  | .i _ => .i | .b _ => .b | .s _ => .s | .v _ => .v | .n _ => .n | .a _ => .a | .r _ _ => .z
theorem alls_spec : ∀ {ks : List K} {F : List At → Prop}, alls ks F → ∀ l : List At, l.map At.kind = ks → F l
  | [], F, h, l, hl => by
    have : l = [] := by cases l <;> simp_all
    subst this; exact h
  | q :: r, F, h, [], hl => by simp at hl
  | q :: r, F, h, x :: l, hl => by
    simp only [List.map_cons, List.cons.injEq] at hl
    obtain ⟨h1, h2⟩ := hl
    cases x <;> (simp only [At.kind] at h1; subst h1; first | exact alls_spec (h _) l h2 | exact alls_spec (h _ _) l h2)
theorem las_kind (e : Env) : ∀ l : List LA, (lasDen e l).map At.kind = l.map LA.kind
  | [] => rfl
  | x :: l => by
    simp only [lasDen, List.map_cons, las_kind e l]
    congr 1
    cases x <;> rfl
theorem las_nth (e : Env) : ∀ (l : List LA) (j : Nat), nth (lasDen e l) j = (nth l j).map (LA.den e)
  | [], _ => rfl
  | _ :: _, 0 => rfl
  | _ :: l, j + 1 => by simpa [lasDen, nth] using las_nth e l j
theorem las_len (e : Env) : ∀ l : List LA, (lasDen e l).length = l.length
  | [] => rfl
  | _ :: l => by simp [lasDen, las_len e l]

section
variable {n : Nat} {ys : List LA} {e0 ext l : Env} (hn : e0.length = n)
include hn
theorem nth_old {j : Nat} (hj : j < n) (r : Env) : nth (e0 ++ r) j = nth (e0 ++ ext) j := by
  rw [nth_app r (by omega), nth_app ext (by omega)]
theorem nth_new {j : Nat} (hj : ¬ j < n) {x : LA} (hx : nth ys (j - n) = some x) (e2 : Env) : nth (e0 ++ (lasDen e2 ys ++ l)) j = some (x.den e2) := by
  have h1 : j = e0.length + (j - n) := by omega
  rw [h1, nth_app2]
  have h2 : nth (lasDen e2 ys) (j - n) = some (x.den e2) := by rw [las_nth, hx]; rfl
  have hlt : j - n < (lasDen e2 ys).length := by
    rw [nth_eq] at h2; exact (List.getElem?_eq_some_iff.1 h2).1
  rw [nth_app l hlt, h2]

theorem SE.sub_den : ∀ {x q : SE}, x.sub n ys = some q → x.den (e0 ++ (lasDen (e0 ++ ext) ys ++ l)) = q.den (e0 ++ ext)
  | .lit s, q, h => by simp only [SE.sub, Option.some.injEq] at h; subst h; rfl
  | .var j, q, h => by
    unfold SE.sub at h
    split at h
    · rename_i hj; injection h with h; subst h
      simp only [SE.den, Env.S]; rw [nth_old hn hj]
    · rename_i hj
      split at h
      · rename_i x hx; injection h with h; subst h
        simp only [SE.den, Env.S]; rw [nth_new hn hj hx]; rfl
      · cases h
  | .app x y, q, h => by
    unfold SE.sub at h
    split at h
    · rename_i a b ha hb; injection h with h; subst h
      simp only [SE.den, SE.sub_den ha, SE.sub_den hb]
    · cases h
theorem NE.sub_den {x q : NE} (h : x.sub n ys = some q) : x.den (e0 ++ (lasDen (e0 ++ ext) ys ++ l)) = q.den (e0 ++ ext) := by
  cases x with
  | lit m => simp only [NE.sub, Option.some.injEq] at h; subst h; rfl
  | var j =>
    simp only [NE.sub] at h
    split at h
    · rename_i hj; injection h with h; subst h
      simp only [NE.den, Env.N]; rw [nth_old hn hj]
    · rename_i hj
      split at h
      · rename_i x hx; injection h with h; subst h
        simp only [NE.den, Env.N]; rw [nth_new hn hj hx]; rfl
      · cases h
theorem IE.sub_den : ∀ {x q : IE}, x.sub_ n ys = some q → x.den (e0 ++ (lasDen (e0 ++ ext) ys ++ l)) = q.den (e0 ++ ext)
  | .lit s, q, h => by simp only [IE.sub_, Option.some.injEq] at h; subst h; rfl
  | .var j, q, h => by
    unfold IE.sub_ at h
    split at h
    · rename_i hj; injection h with h; subst h
      simp only [IE.den, Env.I]; rw [nth_old hn hj]
    · rename_i hj
      split at h
      · rename_i x hx; injection h with h; subst h
        simp only [IE.den, Env.I]; rw [nth_new hn hj hx]; rfl
      · cases h
  | .nat j, q, h => by
    unfold IE.sub_ at h
    split at h
    · rename_i hj; injection h with h; subst h
      simp only [IE.den, Env.N]; rw [nth_old hn hj]
    · rename_i hj
      split at h
      · rename_i x hx; injection h with h; subst h
        simp only [IE.den, Env.N]; rw [nth_new hn hj hx]
        cases x <;> rfl
      · cases h
  | .add x y, q, h => by
    unfold IE.sub_ at h
    split at h
    · rename_i a b ha hb; injection h with h; subst h; simp only [IE.den, IE.sub_den ha, IE.sub_den hb]
    · cases h
  | .sub x y, q, h => by
    unfold IE.sub_ at h
    split at h
    · rename_i a b ha hb; injection h with h; subst h; simp only [IE.den, IE.sub_den ha, IE.sub_den hb]
    · cases h
  | .mul x y, q, h => by
    unfold IE.sub_ at h
    split at h
    · rename_i a b ha hb; injection h with h; subst h; simp only [IE.den, IE.sub_den ha, IE.sub_den hb]
    · cases h
  | .wrap kd x, q, h => by
    unfold IE.sub_ at h
    split at h
    · rename_i a ha; injection h with h; subst h; simp only [IE.den, IE.sub_den ha]
    · cases h
  | .bits op kd x y, q, h => by
    unfold IE.sub_ at h
    split at h
    · rename_i a b ha hb; injection h with h; subst h; simp only [IE.den, IE.sub_den ha, IE.sub_den hb]
    · cases h
  | .tdiv x y, q, h => by
    unfold IE.sub_ at h
    split at h
    · rename_i a b ha hb; injection h with h; subst h; simp only [IE.den, IE.sub_den ha, IE.sub_den hb]
    · cases h
  | .tmod x y, q, h => by
    unfold IE.sub_ at h
    split at h
    · rename_i a b ha hb; injection h with h; subst h; simp only [IE.den, IE.sub_den ha, IE.sub_den hb]
    · cases h
  | .shr x m, q, h => by
    unfold IE.sub_ at h
    split at h
    · rename_i a ha; injection h with h; subst h; simp only [IE.den, IE.sub_den ha]
    · cases h
  | .shl x m, q, h => by
    unfold IE.sub_ at h
    split at h
    · rename_i a ha; injection h with h; subst h; simp only [IE.den, IE.sub_den ha]
    · cases h
  | .ssz x, q, h => by
    unfold IE.sub_ at h
    split at h
    · rename_i a ha; injection h with h; subst h; simp only [IE.den, SE.sub_den hn ha]
    · cases h
theorem BE.sub_den : ∀ {x q : BE}, x.sub n ys = some q → x.den (e0 ++ (lasDen (e0 ++ ext) ys ++ l)) = q.den (e0 ++ ext)
  | .lit s, q, h => by simp only [BE.sub, Option.some.injEq] at h; subst h; rfl
  | .var j, q, h => by
    unfold BE.sub at h
    split at h
    · rename_i hj; injection h with h; subst h
      simp only [BE.den, Env.B]; rw [nth_old hn hj]
    · rename_i hj
      split at h
      · rename_i x hx; injection h with h; subst h
        simp only [BE.den, Env.B]; rw [nth_new hn hj hx]; rfl
      · cases h
  | .eq x y, q, h => by
    unfold BE.sub at h
    split at h
    · rename_i a b ha hb; injection h with h; subst h; simp only [BE.den, IE.sub_den hn ha, IE.sub_den hn hb]
    · cases h
  | .ne x y, q, h => by
    unfold BE.sub at h
    split at h
    · rename_i a b ha hb; injection h with h; subst h; simp only [BE.den, IE.sub_den hn ha, IE.sub_den hn hb]
    · cases h
  | .lt x y, q, h => by
    unfold BE.sub at h
    split at h
    · rename_i a b ha hb; injection h with h; subst h; simp only [BE.den, IE.sub_den hn ha, IE.sub_den hn hb]
    · cases h
  | .le x y, q, h => by
    unfold BE.sub at h
    split at h
    · rename_i a b ha hb; injection h with h; subst h; simp only [BE.den, IE.sub_den hn ha, IE.sub_den hn hb]
    · cases h
  | .not x, q, h => by
    unfold BE.sub at h
    split at h
    · rename_i a ha; injection h with h; subst h; simp only [BE.den, BE.sub_den ha]
    · cases h
  | .seq x y, q, h => by
    unfold BE.sub at h
    split at h
    · rename_i a b ha hb; injection h with h; subst h; simp only [BE.den, SE.sub_den hn ha, SE.sub_den hn hb]
    · cases h
  | .and x y, q, h => by
    unfold BE.sub at h
    split at h
    · rename_i a b ha hb; injection h with h; subst h; simp only [BE.den, BE.sub_den ha, BE.sub_den hb]
    · cases h
  | .or x y, q, h => by
    unfold BE.sub at h
    split at h
    · rename_i a b ha hb; injection h with h; subst h; simp only [BE.den, BE.sub_den ha, BE.sub_den hb]
    · cases h
theorem N_old {j : Nat} (hj : j < n) (r : Env) : Env.N (e0 ++ r) j = Env.N (e0 ++ ext) j := by
  unfold Env.N; rw [nth_old hn hj]
theorem AE.sub_den {x q : AE} (h : x.sub n ys = some q) : x.den (e0 ++ (lasDen (e0 ++ ext) ys ++ l)) = q.den (e0 ++ ext) := by
  cases x with
  | none => simp only [AE.sub, Option.some.injEq] at h; subst h; rfl
  | var j =>
    simp only [AE.sub] at h
    split at h
    · rename_i hj; injection h with h; subst h
      simp only [AE.den, Env.A]; rw [nth_old hn hj]
    · rename_i hj
      split at h
      · rename_i x hx; injection h with h; subst h
        simp only [AE.den, Env.A]; rw [nth_new hn hj hx]; rfl
      · cases h
  | blk j off =>
    simp only [AE.sub] at h
    split at h
    · rename_i hj; injection h with h; subst h
      simp only [AE.den]; rw [N_old hn hj]
    · cases h
theorem SC.sub_den {x q : SC} (h : x.sub n ys = some q) : x.den (e0 ++ (lasDen (e0 ++ ext) ys ++ l)) = q.den (e0 ++ ext) := by
  cases x with
  | int kd x => obtain ⟨y, hy, rfl⟩ := Option.map_eq_some_iff.1 h; simp only [SC.den, IE.sub_den hn hy]
  | bool x => obtain ⟨y, hy, rfl⟩ := Option.map_eq_some_iff.1 h; simp only [SC.den, BE.sub_den hn hy]
  | str x => obtain ⟨y, hy, rfl⟩ := Option.map_eq_some_iff.1 h; simp only [SC.den, SE.sub_den hn hy]
  | ptr j off =>
    simp only [SC.sub] at h
    split at h
    · rename_i hj; injection h with h; subst h
      simp only [SC.den]; rw [N_old hn hj]
    · cases h
  | slice x y z =>
    simp only [SC.sub] at h
    split at h
    · rename_i p q r hp hq hr; injection h with h; subst h
      simp only [SC.den, AE.sub_den hn hp, NE.sub_den hn hq, NE.sub_den hn hr]
    · cases h
  | eptr b o x sz off =>
    simp only [SC.sub] at h
    split at h
    · rename_i hj
      obtain ⟨y, hy, rfl⟩ := Option.map_eq_some_iff.1 h
      simp only [SC.den, IE.sub_den hn hy]; rw [N_old hn hj.1, N_old hn hj.2]
    · cases h
  | val j =>
    simp only [SC.sub] at h
    split at h
    · rename_i hj; injection h with h; subst h
      simp only [SC.den, Env.V]; rw [nth_old hn hj]
    · rename_i hj
      split at h
      · rename_i x hx; injection h with h; subst h
        simp only [SC.den, Env.V]; rw [nth_new hn hj hx]; rfl
      · cases h
  | _ => simp only [SC.sub, Option.some.injEq] at h; subst h; rfl
theorem subC_den : ∀ {x q : List SC}, subC n ys x = some q → cellsDen (e0 ++ (lasDen (e0 ++ ext) ys ++ l)) x = cellsDen (e0 ++ ext) q
  | [], q, h => by simp only [subC, Option.some.injEq] at h; subst h; rfl
  | c :: r, q, h => by
    unfold subC at h
    split at h
    · rename_i a b ha hb; injection h with h; subst h; simp only [cellsDen, SC.sub_den hn ha, subC_den hb]
    · cases h
theorem subP_den : ∀ {x q : List (Bool × List SC)}, subP n ys x = some q → compsDen (e0 ++ (lasDen (e0 ++ ext) ys ++ l)) x = compsDen (e0 ++ ext) q
  | [], q, h => by simp only [subP, Option.some.injEq] at h; subst h; rfl
  | (b, c) :: r, q, h => by
    unfold subP at h
    split at h
    · rename_i a m ha hm; injection h with h; subst h
      have hc := subC_den hn (ext := ext) (l := l) ha
      simp only [compsDen, subP_den hm]
      congr 1
      unfold compDen
      cases b
      · cases c with
        | nil => simp only [subC, Option.some.injEq] at ha; subst ha; rfl
        | cons x c =>
          unfold subC at ha
          split at ha
          · rename_i a' b' ha' hb'; injection ha with ha; subst ha; simpa using SC.sub_den hn (ext := ext) (l := l) ha'
          · cases ha
      · simp [hc]
    · cases h
theorem SV.sub_den {x q : SV} (h : x.sub n ys = some q) : x.den (e0 ++ (lasDen (e0 ++ ext) ys ++ l)) = q.den (e0 ++ ext) := by
  cases x with
  | one x => obtain ⟨y, hy, rfl⟩ := Option.map_eq_some_iff.1 h; exact SC.sub_den hn hy
  | agg x => obtain ⟨y, hy, rfl⟩ := Option.map_eq_some_iff.1 h; simp only [SV.den, subC_den hn hy]
  | tup x => obtain ⟨y, hy, rfl⟩ := Option.map_eq_some_iff.1 h; simp only [SV.den, subP_den hn hy]
end

theorem fitTm_spec {n : Nat} {ys : List LA} : ∀ {h s : List (Option SV)}, fitTm n ys h s = true → h.length = s.length ∧ ∀ t v, nth h t = some (some v) → ∃ u, nth s t = some (some u) ∧ v.sub n ys = some u
  | [], [], _ => ⟨rfl, fun t v h => by simp [nth] at h⟩
  | none :: h, u :: s, hf => by
    obtain ⟨h1, h2⟩ := fitTm_spec (h := h) (s := s) (by unfold fitTm at hf; exact hf)
    refine ⟨by simp [h1], fun t v ht => ?_⟩
    cases t with
    | zero => simp [nth] at ht
    | succ t => exact h2 t v ht
  | some v :: h, some u :: s, hf => by
    simp only [fitTm, Bool.and_eq_true, decide_eq_true_eq] at hf
    obtain ⟨h1, h2⟩ := fitTm_spec (h := h) (s := s) hf.2
    refine ⟨by simp [h1], fun t v' ht => ?_⟩
    cases t with
    | zero => simp only [nth, Option.some.injEq] at ht; subst ht; exact ⟨u, rfl, hf.1⟩
    | succ t => exact h2 t v' ht
  | some v :: h, none :: s, hf => by simp [fitTm] at hf
  | [], _ :: _, hf => by simp [fitTm] at hf
  | _ :: _, [], hf => by
    unfold fitTm at hf
    simp at hf
theorem fitHp_spec {n : Nat} {ys : List LA} {s : List (Nat × TypeId × List SC)} : ∀ {h : List (Nat × TypeId × List SC)}, fitHp n ys s h = true → ∀ j t cs, hpGet h j = some (t, cs) → j < n ∧ ∃ cs', hpGet s j = some (t, cs') ∧ subC n ys cs = some cs'
  | [], _, j, t, cs, hg => by cases hg
  | (i, ti, ci) :: h, hf, j, t, cs, hg => by
    simp only [fitHp, Bool.and_eq_true, decide_eq_true_eq] at hf
    unfold hpGet at hg
    split at hg
    · rename_i hij; subst hij
      simp only [Option.some.injEq, Prod.mk.injEq] at hg
      obtain ⟨rfl, rfl⟩ := hg
      refine ⟨hf.1.1, ?_⟩
      have := hf.1.2
      split at this
      · rename_i t' cs' hs
        simp only [Bool.and_eq_true, decide_eq_true_eq] at this
        exact ⟨cs', by rw [hs, this.1], this.2⟩
      · cases this
    · exact fitHp_spec hf.2 j t cs hg

variable {c : Cx} {L : List LC} {a : Act} {wb w : World} {ws : List FuncId}

/-- At a loop's head. -/
theorem head_ok {e0 ext : Env} {s s2 h : St} {ys : List LA} {L2 : List LC} (h2 : HOk c L2 (e0 ++ ext) s2 a wb w) (hn : e0.length = s.n) (hf : fits s.n ys h s2 = true) (hhn : h.n = s.n + ys.length) (hlv : L.length = h.lv)
    (hfresh : h.fresh = []) (hwr : h.wr = []) (hkn : h.known = []) (hlim : h.lim = none) : HOk c L (e0 ++ lasDen (e0 ++ ext) ys) h a w w := by
  unfold fits at hf
  rw [Bool.and_eq_true] at hf
  obtain ⟨hf1, hf2⟩ := fitTm_spec hf.1
  have hf3 := fitHp_spec hf.2
  refine ⟨by simp [hn, hhn, las_len], fun j b hg => ?_, hlv, h2.defers, by rw [h2.size, hf1], fun l t v ht => ?_, fun l j t cs hg => ?_, fun l j j' b b' hg hg' he => ?_, fun l j b hg => ?_, fun l j t cs hg => ?_, h2.fr, fun l => Fr.refl _ _,
    fun l j hj => (by rw [hfresh] at hj; cases hj), fun _ => rfl, fun l b v hm => (by rw [hkn] at hm; cases hm), fun m D hm => (by rw [hlim] at hm; cases hm)⟩
  · have := (hf3 j b.1 b.2 hg).1
    omega
  · rw [St.get_spec] at ht
    obtain ⟨u, hu, hs⟩ := hf2 t v ht
    rw [List.append_assoc, SV.sub_den hn hs]
    have := h2.tm [] t u (St.get_spec.2 hu)
    rw [List.append_nil] at this
    exact this
  · obtain ⟨hj, cs', hg', hs⟩ := hf3 j t cs hg
    have := h2.hp [] j t cs' hg'
    rw [List.append_nil] at this
    rw [List.append_assoc, N_old hn (ext := ext) hj, subC_den hn hs]
    exact this
  · obtain ⟨hj, cs1, hg1, _⟩ := hf3 j b.1 b.2 hg
    obtain ⟨hj', cs2, hg2, _⟩ := hf3 j' b'.1 b'.2 hg'
    rw [List.append_assoc, N_old hn (ext := ext) hj, N_old hn (ext := ext) hj'] at he
    have := h2.inj [] j j' _ _ hg1 hg2
    rw [List.append_nil] at this
    exact this he
  · obtain ⟨hj, cs1, hg1, _⟩ := hf3 j b.1 b.2 hg
    have := h2.own [] j _ hg1
    rw [List.append_nil] at this
    rw [List.append_assoc, N_old hn (ext := ext) hj]
    exact this
  · obtain ⟨hj, cs', hg', hs⟩ := hf3 j t cs hg
    have := h2.one [] j t cs' hg'
    rw [List.append_nil] at this
    rw [List.append_assoc, subC_den hn hs]
    exact this
end Go.Sx
