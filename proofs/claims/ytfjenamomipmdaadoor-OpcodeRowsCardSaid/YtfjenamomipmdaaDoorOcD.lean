/- Opcode: edits there and back. -/
import Derived.Test.YtfjenamomipmdaaDoorOcH
set_option linter.unusedSimpArgs false
set_option linter.unusedVariables false
namespace Go.Proofs.YtfjenamomipmdaaDoor
open Go Go.RowKit Go.Proofs Go.Trc Go.Sx
theorem flag_put (x : Bool) (r : List UInt8) (b : Bool) : takenV (uptoV 1) (flagB x :: r, b) = ((if x then 1 else 0), (r, b)) := by
  cases x
  · exact up_put (v := 0) (by decide) (by decide) (by decide) r b
  · exact up_put (v := 1) (by decide) (by decide) (by decide) r b
theorem flag_take {s : RS} {v : Int} {r : List UInt8} (h : takenV (uptoV 1) s = (v, (r, false))) : s = (flagB (v == 1) :: r, false) := by
  obtain ⟨rfl, h0, h1⟩ := up_take h
  rcases (show v = 0 ∨ v = 1 by omega) with rfl | rfl <;> rfl
theorem attr_rng {n : Int} (h : attrOk n = true) : rng n := by
  unfold attrOk at h
  rw [Bool.and_eq_true, decide_eq_true_eq, decide_eq_true_eq] at h
  unfold rng; omega
theorem op_put {o : OpV} (hg : Good o) (r : List UInt8) (b : Bool) : opR (opB o ++ r, b) = (o, (r, b)) := by
  have hk := hg.kd
  have e1 : takenV (uptoV 8) (opB o ++ r, b) = (o.kd, (idB o.s o.n ++ (restB o ++ r), b)) := by
    have : opB o ++ r = u8 o.kd :: (idB o.s o.n ++ (restB o ++ r)) := by simp [opB]
    rw [this]
    exact up_put (by omega) (by omega) (by decide) _ _
  unfold opR
  rw [e1, idR_put hg.id]
  show opK o.kd (o.s, o.n) (restB o ++ r, b) = _
  have ho := hg.only
  unfold onlyV at ho
  unfold opK restB
  by_cases h3 : o.kd = 3
  · obtain ⟨k1, k2⟩ := hg.k3 h3
    rw [if_neg (by omega), if_pos h3] at ho
    rw [if_pos h3, if_pos h3, List.append_assoc, corn_put k1]
    show opK3 o.kd (o.s, o.n) _ (cornR (cornB o.b1 o.b2 o.b3 o.b4 o.b5 ++ r, b)) = _
    rw [corn_put k2]
    exact Prod.ext ho rfl
  rw [if_neg h3, if_neg h3]
  by_cases h5 : o.kd = 5
  · obtain ⟨k1, k2, k3, k4⟩ := hg.k5 h5
    rw [if_neg (by omega), if_neg h3, if_pos h5] at ho
    rw [if_pos h5, if_pos h5, List.append_assoc, List.append_assoc, idR_put k1]
    show opK5 o.kd (o.s, o.n) _ (idR (idB o.s2 o.n2 ++ ([u8 o.nn] ++ r), b)) (takenV (uptoV 3) (idR (idB o.s2 o.n2 ++ ([u8 o.nn] ++ r), b)).2) = _
    rw [idR_put k2]
    have : takenV (uptoV 3) ([u8 o.nn] ++ r, b) = (o.nn, (r, b)) := up_put k3 (by omega) (by decide) r b
    show opK5 o.kd (o.s, o.n) _ _ (takenV (uptoV 3) ([u8 o.nn] ++ r, b)) = _
    rw [this]
    exact Prod.ext ho rfl
  rw [if_neg h5, if_neg h5]
  by_cases h6 : o.kd = 6
  · rw [if_pos h6] at ho
    rw [if_pos h6, if_pos h6, idR_put (hg.k6 h6)]
    exact Prod.ext ho rfl
  rw [if_neg h6, if_neg h6]
  rw [if_neg h6, if_neg h3, if_neg h5] at ho
  by_cases h7 : o.kd = 7
  · have hs := label_size (hg.k7 h7)
    rw [if_pos h7] at ho
    rw [if_pos h7, if_pos h7, List.cons_append, flag_put]
    show opK7 o.kd (o.s, o.n) (if o.oe then 1 else 0) (takenV textV (textB o.tx ++ r, b)) = _
    rw [tText_put o.tx (by omega)]
    refine Prod.ext ?_ rfl
    rw [← ho]
    unfold opK7
    cases o.oe <;> rfl
  rw [if_neg h7, if_neg h7]
  rw [if_neg h7] at ho
  by_cases h8 : o.kd = 8
  · rw [if_pos h8] at ho
    rw [if_pos h8, if_pos h8, List.cons_append, flag_put]
    show opK8 o.kd (o.s, o.n) (if o.oe then 1 else 0) (takenV numV (numB o.nn ++ r, b)) = _
    rw [tNum_put o.nn (attr_rng (hg.k8 h8))]
    refine Prod.ext ?_ rfl
    rw [← ho]
    unfold opK8
    cases o.oe <;> rfl
  rw [if_neg h8, if_neg h8]
  rw [if_neg h8] at ho
  exact Prod.ext ho rfl
theorem op_take {bs r : List UInt8} {o : OpV} (h : opR (bs, false) = (o, (r, false))) (hg : Good o) : bs = opB o ++ r := by
  have h' : opK (takenV (uptoV 8) (bs, false)).1 (idR (takenV (uptoV 8) (bs, false)).2).1 (idR (takenV (uptoV 8) (bs, false)).2).2 = (o, (r, false)) := h
  rcases hK : takenV (uptoV 8) (bs, false) with ⟨k, s1⟩
  rw [hK] at h'
  rcases hI : idR s1 with ⟨i, s2⟩
  simp only [hI] at h'
  have fin : ∀ q, s2 = (q, false) → bs = u8 k :: (idB i.1 i.2 ++ q) := by
    rintro q rfl
    obtain ⟨rfl, _⟩ := idR_take hI
    have := (up_take hK).1
    simpa using this
  unfold opK at h'
  by_cases h3 : k = 3
  · rw [if_pos h3] at h'
    rcases hA : cornR s2 with ⟨a, s3⟩
    rw [hA] at h'
    rcases hB : cornR s3 with ⟨b, s4⟩
    simp only [hB] at h'
    unfold opK3 at h'
    simp only [Prod.mk.injEq] at h'
    obtain ⟨rfl, rfl⟩ := h'
    have e3 := corn_take hB
    subst e3
    have e2 := corn_take hA
    rw [fin _ e2]
    unfold opB restB
    rw [if_pos h3]
    simp
  rw [if_neg h3] at h'
  by_cases h5 : k = 5
  · rw [if_pos h5] at h'
    rcases hA : idR s2 with ⟨a, s3⟩
    rw [hA] at h'
    rcases hB : idR s3 with ⟨b, s4⟩
    simp only [hB] at h'
    rcases hC : takenV (uptoV 3) s4 with ⟨n, s5⟩
    rw [hC] at h'
    unfold opK5 at h'
    simp only [Prod.mk.injEq] at h'
    obtain ⟨rfl, rfl⟩ := h'
    obtain ⟨rfl, _⟩ := up_take hC
    obtain ⟨rfl, _⟩ := idR_take hB
    obtain ⟨e2, _⟩ := idR_take hA
    rw [fin _ e2]
    unfold opB restB
    rw [if_neg h3, if_pos h5]
    simp
  rw [if_neg h5] at h'
  by_cases h6 : k = 6
  · rw [if_pos h6] at h'
    rcases hA : idR s2 with ⟨a, s3⟩
    rw [hA] at h'
    unfold opK6 at h'
    simp only [Prod.mk.injEq] at h'
    obtain ⟨rfl, rfl⟩ := h'
    obtain ⟨e2, _⟩ := idR_take hA
    rw [fin _ e2]
    unfold opB restB
    rw [if_neg h3, if_neg h5, if_pos h6]
    simp
  rw [if_neg h6] at h'
  by_cases h7 : k = 7
  · rw [if_pos h7] at h'
    rcases hA : takenV (uptoV 1) s2 with ⟨f, s3⟩
    rw [hA] at h'
    rcases hB : takenV textV s3 with ⟨t, s4⟩
    simp only [hB] at h'
    unfold opK7 at h'
    simp only [Prod.mk.injEq] at h'
    obtain ⟨rfl, rfl⟩ := h'
    have e3 := tText_take hB
    subst e3
    have e2 := flag_take hA
    rw [fin _ e2]
    unfold opB restB
    rw [if_neg h3, if_neg h5, if_neg h6, if_pos h7]
    simp
  rw [if_neg h7] at h'
  by_cases h8 : k = 8
  · rw [if_pos h8] at h'
    rcases hA : takenV (uptoV 1) s2 with ⟨f, s3⟩
    rw [hA] at h'
    rcases hB : takenV numV s3 with ⟨t, s4⟩
    simp only [hB] at h'
    unfold opK8 at h'
    simp only [Prod.mk.injEq] at h'
    obtain ⟨rfl, rfl⟩ := h'
    have e3 := tNum_take hB
    subst e3
    have e2 := flag_take hA
    rw [fin _ e2]
    unfold opB restB
    rw [if_neg h3, if_neg h5, if_neg h6, if_neg h7, if_pos h8]
    simp
  rw [if_neg h8] at h'
  unfold opK0 at h'
  simp only [Prod.mk.injEq] at h'
  obtain ⟨rfl, rfl⟩ := h'
  rw [fin _ rfl]
  unfold opB restB
  rw [if_neg h3, if_neg h5, if_neg h6, if_neg h7, if_neg h8]
  simp
theorem runs_put : ∀ (l : List OpV) (r : List UInt8), (∀ o ∈ l, Good o) → runs opR l.length (l.flatMap opB ++ r, false) = (l, (r, false))
  | [], r, _ => rfl
  | o :: l, r, h => by
    rw [List.length_cons, List.flatMap_cons, List.append_assoc]
    simp only [runs]
    rw [if_neg (by decide), op_put (h o (by simp))]
    show (o :: (runs opR l.length (l.flatMap opB ++ r, false)).1, (runs opR l.length (l.flatMap opB ++ r, false)).2) = _
    rw [runs_put l r fun x hx => h x (List.mem_cons_of_mem _ hx)]
theorem runs_take : ∀ (k : Nat) (bs : List UInt8) (l : List OpV) (r : List UInt8), runs opR k (bs, false) = (l, (r, false)) → (∀ o ∈ l, Good o) → bs = l.flatMap opB ++ r
  | 0, bs, l, r, h, _ => by
    simp only [runs, Prod.mk.injEq] at h
    obtain ⟨rfl, rfl, _⟩ := h
    rfl
  | k + 1, bs, l, r, h, hg => by
    simp only [runs] at h
    rw [if_neg (by decide)] at h
    rcases hO : opR (bs, false) with ⟨o, s1⟩
    rw [hO] at h
    simp only [Prod.mk.injEq] at h
    obtain ⟨rfl, h2⟩ := h
    obtain ⟨q, b⟩ := s1
    cases b with
    | true =>
      have := runs_bad opR k (s := (q, true)) rfl
      rw [h2] at this; cases this
    | false =>
      rcases hR : runs opR k (q, false) with ⟨l', s2⟩
      simp only [hR] at h2 hg
      subst h2
      have e1 := runs_take k q l' r hR fun x hx => hg x (List.mem_cons_of_mem _ hx)
      have e2 := op_take hO (hg o (by simp))
      rw [e2, e1]
      simp [hR]
theorem take_put {l : List OpV} (h : mayEditV l = 0) (r : List UInt8) : takeR (editB l ++ r) = (l, r, 0) := by
  obtain ⟨hl, hg⟩ := may_good h
  have e1 : takenV (uptoV 6) (editB l ++ r, false) = ((l.length : Int), (l.flatMap opB ++ r, false)) := up_put (v := (l.length : Int)) (by omega) (by omega) (by decide) _ _
  unfold takeR
  rw [e1]
  show takeK _ (runs opR (l.length : Int).toNat (l.flatMap opB ++ r, false)) = _
  rw [Int.toNat_natCast, runs_put l r hg]
  unfold takeK
  rw [if_neg (by rintro (h1 | h1); exact absurd (show false = true from h1) (by decide); exact h1 h)]
theorem take_take {bs r : List UInt8} {l : List OpV} (h : takeR bs = (l, r, 0)) : bs = editB l ++ r ∧ mayEditV l = 0 := by
  unfold takeR takeK at h
  split at h
  · simp at h
  · rename_i hn
    rcases hK : takenV (uptoV 6) (bs, false) with ⟨k, s1⟩
    rw [hK] at h hn
    simp only [Prod.mk.injEq] at h
    have hlen := runs_len opR k.toNat s1
    rcases hX : runs opR k.toNat s1 with ⟨l', q, b⟩
    rw [hX] at h hn hlen
    obtain ⟨rfl, rfl, _⟩ := h
    have hb : b = false := by cases b with | false => rfl | true => exact absurd (.inl rfl) hn
    subst hb
    have hm : mayEditV l' = 0 := by
      rcases Decidable.em (mayEditV l' = 0) with h | h
      · exact h
      · exact absurd (.inr h) hn
    obtain ⟨hl, hg⟩ := may_good hm
    obtain ⟨xs, b⟩ := s1
    cases b with
    | true =>
      have := runs_bad opR k.toNat (s := (xs, true)) rfl
      rw [hX] at this; cases this
    | false =>
      have e1 := runs_take k.toNat xs l' q hX hg
      obtain ⟨e2, h0, h6⟩ := up_take hK
      have h7 := hlen (by simp)
      simp only [Prod.mk.injEq, and_true] at e2
      have h7 : l'.length = k.toNat := h7
      refine ⟨?_, hm⟩
      rw [e2, e1]
      unfold editB
      rw [h7]
      have : ((k.toNat : Nat) : Int) = k := by omega
      rw [this]
      simp
theorem take_else (bs : List UInt8) : (∃ l r, takeR bs = (l, r, 0)) ∨ takeR bs = ([], bs, 2) := by
  unfold takeR takeK
  split
  · exact .inr rfl
  · exact .inl ⟨_, _, rfl⟩
end Go.Proofs.YtfjenamomipmdaaDoor
