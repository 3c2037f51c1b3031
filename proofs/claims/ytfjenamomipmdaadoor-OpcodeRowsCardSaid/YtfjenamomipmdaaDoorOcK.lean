/- Opcode: both ways to take come to the same; whole edits. -/
import Derived.Test.YtfjenamomipmdaaDoorOcJ
set_option linter.unusedSimpArgs false
set_option linter.unusedVariables false
namespace Go.Proofs.YtfjenamomipmdaaDoor
open Go Go.RowKit Go.Proofs Go.Trc Go.Sx
theorem taken_bad {α : Type} (tk : List UInt8 → α × List UInt8 × Bool) {s : RS} (h : s.2 = true) : (takenV tk s).2.2 = true := by show (s.2 || _) = true; rw [h]; rfl
theorem one_bad {s : RS} (h : s.2 = true) : (oneV s).2.2 = true := by
  obtain ⟨xs, b⟩ := s
  cases xs with
  | nil => rfl
  | cons c r => exact h
theorem cornR_bad {s : RS} (h : s.2 = true) : (cornR s).2.2 = true := by
  have h1 : (idR s).2.2 = true := taken_bad _ h
  have h2 := taken_bad (uptoV 2) h1
  unfold cornR cornK
  split
  · exact taken_bad _ h2
  · exact h2
theorem cornQ_bad {s : RS} (h : s.2 = true) : (cornQ s).2.2 = true := by
  have h1 : (idR s).2.2 = true := taken_bad _ h
  have h2 := one_bad h1
  unfold cornQ cornQK
  split
  · exact taken_bad _ h2
  · show ((oneV (idR s).2).2.2 || _) = true; rw [h2]; rfl
theorem more_bad {s : RS} (h : s.2 = true) : (more (oneV s)).2 = true := by show ((oneV s).2.2 || _) = true; rw [one_bad h]; rfl
theorem opK_bad (k : Int) (i : Int × Int) {s : RS} (h : s.2 = true) : (opK k i s).2.2 = true := by
  unfold opK
  split
  · exact cornR_bad (cornR_bad h)
  · split
    · exact taken_bad _ (taken_bad _ (taken_bad _ h))
    · split
      · exact taken_bad _ h
      · split
        · exact taken_bad _ (taken_bad _ h)
        · split
          · exact taken_bad _ (taken_bad _ h)
          · exact h
theorem opQK_bad (k : Int) (i : Int × Int) {s : RS} (h : s.2 = true) : (opQK k i s).2.2 = true := by
  unfold opQK
  split
  · exact cornQ_bad (cornQ_bad h)
  · split
    · exact one_bad (taken_bad _ (taken_bad _ h))
    · split
      · exact taken_bad _ h
      · split
        · exact taken_bad _ (more_bad h)
        · split
          · exact taken_bad _ (more_bad h)
          · exact h
/-- Both missed something, or they are the same. -/
def Agree {α : Type} (x y : α × RS) : Prop := (x.2.2 = true ∧ y.2.2 = true) ∨ (x = y ∧ x.2.2 = false)
theorem agree_eq {α : Type} (x : α × RS) : Agree x x := by
  cases h : x.2.2 with
  | true => exact .inl ⟨h, h⟩
  | false => exact .inr ⟨rfl, h⟩
theorem upto_cons (m : Nat) (c : UInt8) (r : List UInt8) (b : Bool) : takenV (uptoV m) (c :: r, b) = if c.toNat ≤ m then ((c.toNat : Int), (r, b)) else (0, (c :: r, true)) := by
  show ((uptoV m (c :: r)).1, ((uptoV m (c :: r)).2.1, b || !(uptoV m (c :: r)).2.2)) = _
  rw [uptoV_cons]
  by_cases h : c.toNat ≤ m
  · rw [if_pos h, if_pos h]; simp
  · rw [if_neg h, if_neg h]; simp
theorem upto_nil (m : Nat) (b : Bool) : takenV (uptoV m) ([], b) = (0, ([], true)) := by simp [takenV, uptoV]
theorem corn_agree (s : RS) : Agree (cornR s) (cornQ s) := by
  show Agree (cornK (idR s).1 (takenV (uptoV 2) (idR s).2)) (cornQK (idR s).1 (oneV (idR s).2))
  generalize idR s = I
  obtain ⟨v, xs, b⟩ := I
  cases xs with
  | nil =>
    refine .inl ⟨?_, ?_⟩
    · show (cornK v (takenV (uptoV 2) ([], b))).2.2 = true
      rw [upto_nil]; rfl
    · rfl
  | cons c r =>
    show Agree (cornK v (takenV (uptoV 2) (c :: r, b))) (cornQK v (oneV (c :: r, b)))
    rw [upto_cons, oneV_cons]
    by_cases hc : c.toNat ≤ 2
    · rw [if_pos hc]
      unfold cornK cornQK
      by_cases h0 : 0 < (c.toNat : Int)
      · rw [if_pos h0, if_pos (by show (c.toNat : Int) = 1 ∨ (c.toNat : Int) = 2; omega)]
        exact agree_eq _
      · rw [if_neg h0, if_neg (by show ¬ ((c.toNat : Int) = 1 ∨ (c.toNat : Int) = 2); omega)]
        have hd : decide (2 < (c.toNat : Int)) = false := decide_eq_false (by omega)
        show Agree ((v.1, v.2, 0, 0, 0), (r, b)) ((v.1, v.2, 0, 0, 0), (r, b || decide (2 < (c.toNat : Int))))
        rw [hd, Bool.or_false]
        exact agree_eq _
    · rw [if_neg hc]
      refine .inl ⟨rfl, ?_⟩
      unfold cornQK
      rw [if_neg (by show ¬ ((c.toNat : Int) = 1 ∨ (c.toNat : Int) = 2); omega)]
      show (b || decide (2 < (c.toNat : Int))) = true
      rw [decide_eq_true (by omega), Bool.or_true]
/-- .. or told by May. -/
def Doomed (x : OpV × RS) : Prop := x.2.2 = true ∨ mayV x.1 ≠ 0
def AgreeO (x y : OpV × RS) : Prop := (Doomed x ∧ Doomed y) ∨ (x = y ∧ x.2.2 = false)
theorem agree_o {x y : OpV × RS} (h : Agree x y) : AgreeO x y := h.imp (fun ⟨a, b⟩ => ⟨.inl a, .inl b⟩) id
theorem flag_agree (s : RS) : Agree (takenV (uptoV 1) s) ((oneV s).1, more (oneV s)) := by
  obtain ⟨xs, b⟩ := s
  cases xs with
  | nil => rw [upto_nil]; exact .inl ⟨rfl, rfl⟩
  | cons c r =>
    rw [upto_cons, oneV_cons]
    by_cases hc : c.toNat ≤ 1
    · rw [if_pos hc]
      have hd : decide (1 < (c.toNat : Int)) = false := decide_eq_false (by omega)
      show Agree ((c.toNat : Int), (r, b)) ((c.toNat : Int), (r, b || decide (1 < (c.toNat : Int))))
      rw [hd, Bool.or_false]; exact agree_eq _
    · rw [if_neg hc]
      refine .inl ⟨rfl, ?_⟩
      show (b || decide (1 < (c.toNat : Int))) = true
      rw [decide_eq_true (by omega), Bool.or_true]
theorem opK_agree (k : Int) (i : Int × Int) (s : RS) : AgreeO (opK k i s) (opQK k i s) := by
  unfold opK opQK
  by_cases h3 : k = 3
  · rw [if_pos h3, if_pos h3]
    rcases corn_agree s with ⟨a, b⟩ | ⟨e, ha⟩
    · exact .inl ⟨.inl (cornR_bad a), .inl (cornQ_bad b)⟩
    · rw [← e]
      rcases corn_agree (cornR s).2 with ⟨a, b⟩ | ⟨e2, hb⟩
      · exact .inl ⟨.inl a, .inl b⟩
      · rw [← e2]; exact .inr ⟨rfl, hb⟩
  rw [if_neg h3, if_neg h3]
  by_cases h5 : k = 5
  · rw [if_pos h5, if_pos h5]
    generalize idR s = a
    generalize idR a.2 = b
    obtain ⟨v, xs, bd⟩ := b
    cases xs with
    | nil =>
      refine .inl ⟨.inl ?_, .inl rfl⟩
      show (takenV (uptoV 3) ([], bd)).2.2 = true
      rw [upto_nil]
    | cons c r =>
      show AgreeO (opK5 k i a (v, (c :: r, bd)) (takenV (uptoV 3) (c :: r, bd))) (opK5 k i a (v, (c :: r, bd)) (oneV (c :: r, bd)))
      rw [upto_cons, oneV_cons]
      by_cases hc : c.toNat ≤ 3
      · rw [if_pos hc]; exact agree_o (agree_eq _)
      · rw [if_neg hc]
        refine .inl ⟨.inl rfl, .inr fun hm => ?_⟩
        have hg := (good_of hm).k5 h5
        have : (c.toNat : Int) ≤ 3 := hg.2.2.2
        omega
  rw [if_neg h5, if_neg h5]
  by_cases h6 : k = 6
  · rw [if_pos h6, if_pos h6]; exact agree_o (agree_eq _)
  rw [if_neg h6, if_neg h6]
  by_cases h7 : k = 7
  · rw [if_pos h7, if_pos h7]
    rcases flag_agree s with ⟨a, b⟩ | ⟨e, ha⟩
    · exact .inl ⟨.inl (taken_bad _ a), .inl (taken_bad _ b)⟩
    · have e1 : (takenV (uptoV 1) s).1 = (oneV s).1 := by rw [e]
      have e2 : (takenV (uptoV 1) s).2 = more (oneV s) := by rw [e]
      rw [e1, e2]; exact agree_o (agree_eq _)
  rw [if_neg h7, if_neg h7]
  by_cases h8 : k = 8
  · rw [if_pos h8, if_pos h8]
    rcases flag_agree s with ⟨a, b⟩ | ⟨e, ha⟩
    · exact .inl ⟨.inl (taken_bad _ a), .inl (taken_bad _ b)⟩
    · have e1 : (takenV (uptoV 1) s).1 = (oneV s).1 := by rw [e]
      have e2 : (takenV (uptoV 1) s).2 = more (oneV s) := by rw [e]
      rw [e1, e2]; exact agree_o (agree_eq _)
  rw [if_neg h8, if_neg h8]; exact agree_o (agree_eq _)
theorem op_agree (s : RS) : AgreeO (opR s) (opQ s) := by
  obtain ⟨xs, b⟩ := s
  cases xs with
  | nil =>
    refine .inl ⟨.inl ?_, .inl ?_⟩
    · exact opK_bad _ _ (taken_bad _ (by rw [upto_nil]))
    · exact opQK_bad _ _ (taken_bad _ rfl)
  | cons c r =>
    by_cases hc : c.toNat ≤ 8
    · have e : takenV (uptoV 8) (c :: r, b) = oneV (c :: r, b) := by rw [upto_cons, oneV_cons, if_pos hc]
      show AgreeO (opK (takenV (uptoV 8) (c :: r, b)).1 (idR (takenV (uptoV 8) (c :: r, b)).2).1 (idR (takenV (uptoV 8) (c :: r, b)).2).2) (opQ (c :: r, b))
      rw [e]; exact opK_agree _ _ _
    · refine .inl ⟨.inl (opK_bad _ _ (taken_bad _ (by rw [upto_cons, if_neg hc]))), .inr fun hm => ?_⟩
      have hk := (good_of hm).kd
      have hkd : (opQ (c :: r, b)).1.kd = (c.toNat : Int) := by
        show (opQK (c.toNat : Int) _ _).1.kd = _
        unfold opQK
        rw [if_neg (by omega), if_neg (by omega), if_neg (by omega), if_neg (by omega), if_neg (by omega)]
        rfl
      omega
def DoomedL (x : List OpV × RS) : Prop := x.2.2 = true ∨ ∃ o ∈ x.1, mayV o ≠ 0
theorem runs_bad (f : RS → OpV × RS) (k : Nat) {s : RS} (h : s.2 = true) : (runs f k s).2.2 = true := by
  cases k with
  | zero => exact h
  | succ k => simp only [runs]; rw [if_pos h]; exact h
theorem runs_doomed (f : RS → OpV × RS) (k : Nat) {s : RS} (h : s.2 = false) (hd : Doomed (f s)) : DoomedL (runs f (k + 1) s) := by
  simp only [runs]
  rw [if_neg (by rw [h]; decide)]
  rcases hd with hd | hd
  · exact .inl (runs_bad f k hd)
  · exact .inr ⟨_, by simp, hd⟩
theorem runs_agree : ∀ (k : Nat) (s : RS), s.2 = false → (DoomedL (runs opR k s) ∧ DoomedL (runs opQ k s)) ∨ runs opR k s = runs opQ k s
  | 0, s, _ => .inr rfl
  | k + 1, s, h => by
    rcases op_agree s with ⟨a, b⟩ | ⟨e, hb⟩
    · exact .inl ⟨runs_doomed _ k h a, runs_doomed _ k h b⟩
    · have hn : ¬ s.2 = true := by rw [h]; decide
      simp only [runs]
      rw [if_neg hn, if_neg hn, ← e]
      rcases runs_agree k (opR s).2 hb with ⟨a, b⟩ | e2
      · refine .inl ⟨?_, ?_⟩
        · exact a.imp id fun ⟨o, ho, h⟩ => ⟨o, List.mem_cons_of_mem _ ho, h⟩
        · exact b.imp id fun ⟨o, ho, h⟩ => ⟨o, List.mem_cons_of_mem _ ho, h⟩
      · rw [e2]; exact .inr rfl
theorem runs_len (f : RS → OpV × RS) : ∀ (k : Nat) (s : RS), ¬ (runs f k s).2.2 = true → (runs f k s).1.length = k
  | 0, s, _ => rfl
  | k + 1, s, h => by
    simp only [runs] at h ⊢
    split at h
    · rename_i hs; exact absurd hs h
    · rename_i hs
      rw [if_neg hs, List.length_cons, runs_len f k (f s).2 h]
theorem doomed_may {x : List OpV × RS} (h : DoomedL x) : x.2.2 = true ∨ mayEditV x.1 ≠ 0 := by
  rcases h with h | ⟨o, ho, h⟩
  · exact .inl h
  · refine .inr fun hm => h ?_
    unfold mayEditV at hm
    split at hm
    · cases hm
    · exact firstBad_all hm o ho
theorem take_same (bs : List UInt8) : takeR bs = takeQ bs := by
  unfold takeR takeQ
  cases bs with
  | nil =>
    rw [upto_nil, oneV_nil]
    simp [takeK, takeQK, runs]
  | cons c r =>
    rw [upto_cons, oneV_cons]
    by_cases hc : c.toNat ≤ 6
    · rw [if_pos hc]
      have e : min (c.toNat : Int).toNat 7 = (c.toNat : Int).toNat := by omega
      show takeK (c :: r) (runs opR (c.toNat : Int).toNat (r, false)) = takeQK (c :: r) (c.toNat : Int) (runs opQ (min (c.toNat : Int).toNat 7) (r, false))
      rw [e]
      rcases runs_agree (c.toNat : Int).toNat (r, false) rfl with ⟨a, b⟩ | e2
      · unfold takeK takeQK
        rw [if_pos (doomed_may a), if_pos ((doomed_may b).imp id .inr)]
      · rw [e2]
        have hlen := runs_len opQ (c.toNat : Int).toNat (r, false)
        generalize runs opQ (c.toNat : Int).toNat (r, false) = X at hlen ⊢
        unfold takeK takeQK
        by_cases h1 : X.2.2 = true
        · rw [if_pos (.inl h1), if_pos (.inl h1)]
        · have := hlen h1
          by_cases h2 : mayEditV X.1 ≠ 0
          · rw [if_pos (.inr h2), if_pos (.inr (.inr h2))]
          · rw [if_neg (by rintro (h | h); exact h1 h; exact h2 h), if_neg (by
              rintro (h | h | h)
              · exact h1 h
              · exact h (by omega)
              · exact h2 h)]
    · rw [if_neg hc]
      have e : min (c.toNat : Int).toNat 7 = 7 := by omega
      show takeK (c :: r) ([], (c :: r, true)) = takeQK (c :: r) (c.toNat : Int) (runs opQ (min (c.toNat : Int).toNat 7) (r, false))
      rw [e]
      have hlen := runs_len opQ 7 (r, false)
      generalize runs opQ 7 (r, false) = X at hlen ⊢
      unfold takeK takeQK
      rw [if_pos (.inl rfl)]
      by_cases h1 : X.2.2 = true
      · rw [if_pos (.inl h1)]
      · have := hlen h1
        rw [if_pos (.inr (.inr (by unfold mayEditV; rw [if_pos (by omega)]; decide)))]
end Go.Proofs.YtfjenamomipmdaaDoor
