/- Opcode: what was laid down is taken as it was, and nothing else is. -/
import Derived.Test.YtfjenamomipmdaaDoorOcN
set_option linter.unusedSimpArgs false
set_option linter.unusedVariables false
namespace Go.Proofs.YtfjenamomipmdaaDoor
open Go Go.RowKit Go.Proofs Go.Trc Go.Sx
theorem u8_nat (y : Int) : ((u8 y).toNat : Int) = y % 256 := by
  have h0 := Int.emod_nonneg y (by decide : (256 : Int) ≠ 0)
  have h1 := Int.emod_lt_of_pos y (by decide : (0 : Int) < 256)
  have e2 : (u8 y).toNat = (y % 256).toNat := by
    unfold u8
    rw [UInt8.toNat_ofNat']
    omega
  rw [e2]; omega
theorem u8_eq {y : Int} {c : UInt8} (h : y % 256 = (c.toNat : Int)) : u8 y = c := by
  apply UInt8.toNat_inj.1
  have := u8_nat y
  omega
theorem bigV3 (a b c : UInt8) : bigV [a, b, c] = ((a.toNat : Int) * 256 + b.toNat) * 256 + c.toNat := by simp [bigV]
theorem ident_put {s n : Int} (h : idOk s n = true) (r : List UInt8) : identV (idB s n ++ r) = ((s, n), r, true) := by
  have hi := idOk_iff h
  have e1 : ((u8 s).toNat : Int) = s := by rw [u8_nat]; omega
  have e2 : bigV [u8 (n / 65536), u8 (n / 256), u8 n] = n := by rw [bigV3, u8_nat, u8_nat, u8_nat]; omega
  show identV (u8 s :: u8 (n / 65536) :: u8 (n / 256) :: u8 n :: r) = _
  rw [identV_cons, e1, e2, if_pos h]
theorem ident_take {bs r : List UInt8} {x : Int × Int} (h : identV bs = (x, r, true)) : bs = idB x.1 x.2 ++ r ∧ idOk x.1 x.2 = true := by
  rcases Nat.lt_or_ge bs.length 4 with hl | hl
  · rw [identV_short hl] at h; cases h
  obtain ⟨a, b, c, d, q, rfl⟩ := four_of hl
  rw [identV_cons] at h
  split at h
  · rename_i hok
    simp only [Prod.mk.injEq, and_true] at h
    obtain ⟨rfl, rfl⟩ := h
    refine ⟨?_, hok⟩
    have ha := a.toNat_lt; have hb := b.toNat_lt; have hc := c.toNat_lt; have hd := d.toNat_lt
    have h3 := bigV3 b c d
    show a :: b :: c :: d :: q = u8 a.toNat :: u8 (bigV [b, c, d] / 65536) :: u8 (bigV [b, c, d] / 256) :: u8 (bigV [b, c, d]) :: q
    rw [u8_eq (c := a) (by omega), u8_eq (c := b) (by omega), u8_eq (c := c) (by omega), u8_eq (c := d) (by omega)]
  · cases h
theorem idR_put {s n : Int} (h : idOk s n = true) (r : List UInt8) (b : Bool) : idR (idB s n ++ r, b) = ((s, n), (r, b)) := by
  unfold idR takenV
  rw [ident_put h]; simp
theorem not_or {b c : Bool} (h : (b || !c) = false) : b = false ∧ c = true := by cases b <;> cases c <;> simp_all
theorem idR_take {s : RS} {x : Int × Int} {r : List UInt8} (h : idR s = (x, (r, false))) : s = (idB x.1 x.2 ++ r, false) ∧ idOk x.1 x.2 = true := by
  obtain ⟨bs, b⟩ := s
  unfold idR takenV at h
  simp only [Prod.mk.injEq] at h
  obtain ⟨h1, h2, h3⟩ := h
  obtain ⟨rfl, h4⟩ := not_or h3
  have := ident_take (bs := bs) (x := x) (r := r) (by rw [← h1, ← h2, ← h4])
  exact ⟨by rw [← this.1], this.2⟩
theorem up_put {v : Int} {m : Nat} (h0 : 0 ≤ v) (h1 : v ≤ m) (hm : m ≤ 255) (r : List UInt8) (b : Bool) : takenV (uptoV m) (u8 v :: r, b) = (v, (r, b)) := by
  have e : ((u8 v).toNat : Int) = v := by rw [u8_nat]; omega
  rw [upto_cons, if_pos (by omega), e]
theorem up_take {s : RS} {v : Int} {m : Nat} {r : List UInt8} (h : takenV (uptoV m) s = (v, (r, false))) : s = (u8 v :: r, false) ∧ 0 ≤ v ∧ v ≤ m := by
  obtain ⟨bs, b⟩ := s
  cases bs with
  | nil => rw [upto_nil] at h; simp at h
  | cons c q =>
    rw [upto_cons] at h
    split at h
    · rename_i hc
      simp only [Prod.mk.injEq] at h
      obtain ⟨rfl, rfl, rfl⟩ := h
      have := c.toNat_lt
      exact ⟨by rw [u8_eq (c := c) (by omega)], by omega, by omega⟩
    · simp at h
theorem count_put (t : List UInt8) (h : t.length ≤ 255) (r : List UInt8) : countV (u8 t.length :: t ++ r) = (t, r, true) := by
  have e : ((u8 t.length).toNat : Int) = t.length := by rw [u8_nat]; omega
  have e' : (u8 t.length).toNat = t.length := by omega
  rw [List.cons_append, countV_cons, e', if_pos (by simp)]
  simp
theorem text_put (s : ByteArray) (h : s.size ≤ 255) (r : List UInt8) : textV (textB s ++ r) = (s, r, true) := by
  have hl : s.data.toList.length = s.size := by simp
  have := count_put s.data.toList (by omega) r
  rw [hl] at this
  unfold textV textB
  rw [this]
theorem text_take {bs r : List UInt8} {t : ByteArray} (h : textV bs = (t, r, true)) : bs = textB t ++ r ∧ t.size ≤ 255 := by
  unfold textV at h
  cases bs with
  | nil => simp [countV] at h
  | cons c q =>
    rw [countV_cons] at h
    split at h
    · rename_i hc
      simp only [Prod.mk.injEq, and_true] at h
      obtain ⟨rfl, rfl⟩ := h
      have hb := c.toNat_lt
      have hs : (⟨(q.take c.toNat).toArray⟩ : ByteArray).size = c.toNat := by
        show (q.take c.toNat).toArray.size = _
        rw [List.size_toArray, List.length_take]; omega
      refine ⟨?_, by omega⟩
      unfold textB
      rw [hs, u8_eq (c := c) (by omega)]
      simp
    · simp at h
theorem tText_put (s : ByteArray) (h : s.size ≤ 255) (r : List UInt8) (b : Bool) : takenV textV (textB s ++ r, b) = (s, (r, b)) := by unfold takenV; rw [text_put s h]; simp
theorem tText_take {s : RS} {t : ByteArray} {r : List UInt8} (h : takenV textV s = (t, (r, false))) : s = (textB t ++ r, false) := by
  obtain ⟨bs, b⟩ := s
  unfold takenV at h
  simp only [Prod.mk.injEq] at h
  obtain ⟨h1, h2, h3⟩ := h
  obtain ⟨rfl, h4⟩ := not_or h3
  have := text_take (bs := bs) (t := t) (r := r) (by rw [← h1, ← h2, ← h4])
  rw [← this.1]
theorem bigV8 (a b c d e f g h : UInt8) : bigV [a, b, c, d, e, f, g, h] = (((((((a.toNat : Int) * 256 + b.toNat) * 256 + c.toNat) * 256 + d.toNat) * 256 + e.toNat) * 256 + f.toNat) * 256 + g.toNat) * 256 + h.toNat := by simp [bigV]
theorem num_put (n : Int) (h : rng n) (r : List UInt8) : numV (numB n ++ r) = (n, r, true) := by
  unfold rng at h
  rw [numV_long (by simp [numB])]
  have e1 : (numB n ++ r).take 8 = numB n := List.take_left' rfl
  have e2 : (numB n ++ r).drop 8 = r := List.drop_left' rfl
  rw [e1, e2]
  have e3 : bigV (numB n) = n % 18446744073709551616 := by
    unfold numB
    rw [bigV8, u8_nat, u8_nat, u8_nat, u8_nat, u8_nat, u8_nat, u8_nat, u8_nat]
    omega
  have e4 : IntKind.i64.wrap (n % 18446744073709551616) = n := by rw [IntKind.wrap_i64]; omega
  rw [e3, e4]
theorem num_take {bs r : List UInt8} {n : Int} (h : numV bs = (n, r, true)) : bs = numB n ++ r := by
  rcases Nat.lt_or_ge bs.length 8 with hl | hl
  · rw [numV_short hl] at h; simp at h
  rw [numV_long hl] at h
  simp only [Prod.mk.injEq, and_true] at h
  obtain ⟨rfl, rfl⟩ := h
  match bs, hl with
  | a :: b :: c :: d :: e :: f :: g :: i :: q, _ =>
    have h8 := bigV8 a b c d e f g i
    show a :: b :: c :: d :: e :: f :: g :: i :: q = numB (IntKind.i64.wrap (bigV [a, b, c, d, e, f, g, i])) ++ q
    generalize bigV [a, b, c, d, e, f, g, i] = x at h8 ⊢
    have ha := a.toNat_lt; have hb := b.toNat_lt; have hc := c.toNat_lt; have hd := d.toNat_lt
    have he := e.toNat_lt; have hf := f.toNat_lt; have hg := g.toNat_lt; have hi := i.toNat_lt
    rw [IntKind.wrap_i64]
    unfold numB
    rw [u8_eq (c := a) (by omega), u8_eq (c := b) (by omega), u8_eq (c := c) (by omega), u8_eq (c := d) (by omega), u8_eq (c := e) (by omega), u8_eq (c := f) (by omega), u8_eq (c := g) (by omega), u8_eq (c := i) (by omega)]
    rfl
theorem tNum_put (n : Int) (h : rng n) (r : List UInt8) (b : Bool) : takenV numV (numB n ++ r, b) = (n, (r, b)) := by unfold takenV; rw [num_put n h]; simp
theorem tNum_take {s : RS} {n : Int} {r : List UInt8} (h : takenV numV s = (n, (r, false))) : s = (numB n ++ r, false) := by
  obtain ⟨bs, b⟩ := s
  unfold takenV at h
  simp only [Prod.mk.injEq] at h
  obtain ⟨h1, h2, h3⟩ := h
  obtain ⟨rfl, h4⟩ := not_or h3
  have := num_take (bs := bs) (n := n) (r := r) (by rw [← h1, ← h2, ← h4])
  rw [← this]
theorem corn_cases {a1 a2 a3 a4 a5 : Int} (h : cornerOk a1 a2 a3 a4 a5 = true) : idOk a1 a2 = true ∧ ((a3 = 0 ∧ a4 = 0 ∧ a5 = 0) ∨ (idOk a3 a4 = true ∧ (a5 = 0 ∨ a5 = 1))) := by
  unfold cornerOk at h
  rw [Bool.and_eq_true, Bool.or_eq_true, decide_eq_true_eq] at h
  refine ⟨h.1, h.2.imp id fun h2 => ?_⟩
  unfold dartOk at h2
  rw [Bool.and_eq_true, decide_eq_true_eq] at h2
  exact h2
theorem corn_put {a1 a2 a3 a4 a5 : Int} (h : cornerOk a1 a2 a3 a4 a5 = true) (r : List UInt8) (b : Bool) : cornR (cornB a1 a2 a3 a4 a5 ++ r, b) = ((a1, a2, a3, a4, a5), (r, b)) := by
  obtain ⟨h1, h2⟩ := corn_cases h
  unfold cornR cornB
  rcases h2 with ⟨rfl, rfl, rfl⟩ | ⟨h2, h5⟩
  · rw [if_pos ⟨rfl, rfl, rfl⟩, List.append_assoc, idR_put h1]
    have : takenV (uptoV 2) ([0] ++ r, b) = (0, (r, b)) := up_put (v := 0) (by decide) (by decide) (by decide) r b
    show cornK (a1, a2) (takenV (uptoV 2) ([0] ++ r, b)) = _
    rw [this]
    rfl
  · have hi := idOk_iff h2
    rw [if_neg (by omega), List.append_assoc, idR_put h1]
    have : takenV (uptoV 2) (u8 (a5 + 1) :: idB a3 a4 ++ r, b) = (a5 + 1, (idB a3 a4 ++ r, b)) := up_put (v := a5 + 1) (by omega) (by omega) (by decide) _ b
    show cornK (a1, a2) (takenV (uptoV 2) (u8 (a5 + 1) :: idB a3 a4 ++ r, b)) = _
    rw [this]
    unfold cornK
    rw [if_pos (by show 0 < a5 + 1; omega)]
    show ((a1, a2, (idR (idB a3 a4 ++ r, b)).1.1, (idR (idB a3 a4 ++ r, b)).1.2, a5 + 1 - 1), (idR (idB a3 a4 ++ r, b)).2) = _
    rw [idR_put h2, Int.add_sub_cancel]
theorem corn_take {s : RS} {x : Crn} {r : List UInt8} (h : cornR s = (x, (r, false))) : s = (cornB x.1 x.2.1 x.2.2.1 x.2.2.2.1 x.2.2.2.2 ++ r, false) := by
  have h' : cornK (idR s).1 (takenV (uptoV 2) (idR s).2) = (x, (r, false)) := h
  rcases hI : idR s with ⟨v, s1⟩
  rw [hI] at h'
  unfold cornK at h'
  split at h'
  · rename_i hpos
    rcases hN : takenV (uptoV 2) s1 with ⟨n, s2⟩
    rcases hE : idR s2 with ⟨e, s3⟩
    rw [hN] at hpos h'
    simp only [hE] at h'
    simp only [Prod.mk.injEq] at h'
    obtain ⟨rfl, rfl⟩ := h'
    obtain ⟨rfl, k1⟩ := idR_take hE
    obtain ⟨rfl, k2⟩ := up_take hN
    obtain ⟨rfl, k3⟩ := idR_take hI
    have hi := idOk_iff k1
    unfold cornB
    rw [if_neg (by show ¬ (e.1 = 0 ∧ e.2 = 0 ∧ n - 1 = 0); omega)]
    show (_, false) = (_, false)
    rw [Int.sub_add_cancel]
    simp
  · rename_i hz
    rcases hN : takenV (uptoV 2) s1 with ⟨n, s2⟩
    rw [hN] at hz h'
    simp only [Prod.mk.injEq] at h'
    obtain ⟨rfl, rfl⟩ := h'
    obtain ⟨rfl, k2⟩ := up_take hN
    obtain ⟨rfl, k3⟩ := idR_take hI
    have hn : n = 0 := by have hz : ¬ 0 < n := hz; omega
    subst hn
    unfold cornB
    rw [if_pos ⟨rfl, rfl, rfl⟩]
    have : u8 0 = 0 := rfl
    rw [this]
    simp
end Go.Proofs.YtfjenamomipmdaaDoor
