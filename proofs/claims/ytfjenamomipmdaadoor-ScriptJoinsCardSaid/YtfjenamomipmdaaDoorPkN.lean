/- Opcode: whole edits; OpcodeTakes. -/
import Derived.Test.YtfjenamomipmdaaDoorPkQ
import Derived.Test.YtfjenamomipmdaaDoorOcO
set_option linter.unusedSimpArgs false
set_option linter.unusedVariables false
namespace Go.Proofs.YtfjenamomipmdaaDoor
open Go Go.RowKit Go.Proofs Go.Trc Go.Sx
def wholeK (x : ES) : List OpV × Int := if x.2.2 ≠ 0 ∨ 0 < x.2.1.length then ([], 2) else (x.1, 0)
def wholeV (bs : List UInt8) : List OpV × Int := wholeK (takeR bs)
def WholeE (w : World) (x : List OpV × Int) (e : Ending) (w' : World) : Prop :=
  ∃ A n c, e = .returned (.tuple #[.agg #[.slice A n c], .int .i64 x.2]) ∧ OwnF w' w.heap.size 39 (.slice A n c) x.1 ∧ Below w.heap.size w w'
set_option maxHeartbeats 1000000 in
theorem opcodeWhole_c {w : World} {ok : Nat → Prop} {A : Option Addr} {n c : Nat} {xs : List UInt8} (h : Sl w ok (.slice A n c) xs) (hl : n ≤ 1000000) : Calls Tryd.prog 21 #[.slice A n c] w (WholeE w (wholeV xs)) := by
  refine opcodeWhole_sx _ (fun _ => False) w A n c ?_
  -- the whole of it, or none
  intro g3 hg3 w1 f1 b1 lo3 t3
  refine (opcodeTake_c (h.below b1) hl).mono ?_
  rintro e w2 ⟨A4, n5, c6, A7, n8, c9, rfl, o2, s2, b2⟩
  have f2 := f1.step b2
  have e3 := (b2.block g3 (heap_lt t3)).trans t3
  have ho := own_ne' o2 e3 (by decide)
  skip
  have er : wholeV xs = wholeK (takeR xs) := rfl
  rw [er]
  generalize takeR xs = X at o2 s2 ⊢
  have h8 := s2.len
  refine ⟨A4, n5, c6, A7, n8, c9, _, rfl, ok_ret b2 f1, fun g11 hg11 => ⟨fun hne w3 f3 q3 lo t => ?_, fun he => ⟨fun hpos w3 f3 q3 lo t => ?_, fun hz w3 f3 q3 lo t => ?_⟩⟩⟩
  · unfold wholeK; rw [if_pos (.inl hne)]
    exact ⟨none, 0, 0, rfl, OwnF.nil _ _ _, fr_below f3⟩
  · unfold wholeK; rw [if_pos (.inr (by omega))]
    exact ⟨none, 0, 0, rfl, OwnF.nil _ _ _, fr_below f3⟩
  · unfold wholeK; rw [if_neg (by rintro (h | h); exact h he; omega)]
    exact ⟨A4, n5, c6, rfl, (past_own o2 q3 ho).base' (fun k hk => Nat.le_trans b1.size (Own.base o2 k hk)), fr_below f3⟩
set_option maxHeartbeats 1000000 in
theorem ref10Whole_c {w : World} {ok : Nat → Prop} {A : Option Addr} {n c : Nat} {xs : List UInt8} (h : Sl w ok (.slice A n c) xs) (hl : n ≤ 1000000) : Calls Tryd.prog 22 #[.slice A n c] w (WholeE w (wholeV xs)) := by
  refine ref10Whole_sx _ (fun _ => False) w A n c ?_
  -- the whole of it, or none
  intro g3 hg3 w1 f1 b1 lo3 t3
  refine (ref10Take_c (h.below b1) hl).mono ?_
  rintro e w2 ⟨A4, n5, c6, A7, n8, c9, rfl, o2, s2, b2⟩
  have f2 := f1.step b2
  have e3 := (b2.block g3 (heap_lt t3)).trans t3
  have ho := own_ne' o2 e3 (by decide)
  rw [← take_same] at o2 s2 ⊢
  have er : wholeV xs = wholeK (takeR xs) := rfl
  rw [er]
  generalize takeR xs = X at o2 s2 ⊢
  have h8 := s2.len
  refine ⟨A4, n5, c6, A7, n8, c9, _, rfl, ok_ret b2 f1, fun g11 hg11 => ⟨fun hne w3 f3 q3 lo t => ?_, fun he => ⟨fun hpos w3 f3 q3 lo t => ?_, fun hz w3 f3 q3 lo t => ?_⟩⟩⟩
  · unfold wholeK; rw [if_pos (.inl hne)]
    exact ⟨none, 0, 0, rfl, OwnF.nil _ _ _, fr_below f3⟩
  · unfold wholeK; rw [if_pos (.inr (by omega))]
    exact ⟨none, 0, 0, rfl, OwnF.nil _ _ _, fr_below f3⟩
  · unfold wholeK; rw [if_neg (by rintro (h | h); exact h he; omega)]
    exact ⟨A4, n5, c6, rfl, (past_own o2 q3 ho).base' (fun k hk => Nat.le_trans b1.size (Own.base o2 k hk)), fr_below f3⟩
set_option maxHeartbeats 2000000 in
theorem opcodeTakes_walk (w : World) (A : Option Addr) (n c : Nat) (xs : List UInt8) (h : Sl w (fun b => b < w.heap.size) (.slice A n c) xs) :
    Calls Tryd.prog 6 #[.slice A n c] w (Ret (.bool true) w) := by
  refine opcodeTakes_sx _ (fun _ => False) w A n c ?_
  refine (shown10_c w).mono ?_
  rintro e w1 ⟨rfl, b1⟩
  have f1 : Fr (fun _ => False) w w1 := (Fr.refl _ _).step b1
  have h1 := h.below b1
  refine ⟨_, rfl, ok_ret b1 (Fr.refl _ _), fun hgt => ?_, fun hle => ?_⟩
  · obtain ⟨hr, s0⟩ := hi_b h (k := 400) (by omega)
    refine ⟨A, 400, c, hr w1, ?_⟩
    have s1 := s0.below b1
    -- both take the same
    intro g7 hg7 w2 f2 b2 lo7 t7
    obtain ⟨w3, A8, n9, c10, hr3, s3, b3⟩ := app_new (P := Tryd.prog) (g := g7) 22 22 5 (.int .u8 0) 1 Tryd.underlying22 infoB1 rfl (s1.below b2) (by omega)
    have f3 := f2.step b3
    have l3 := s3.len
    have lx := s1.len
    refine ⟨w3, A8, n9, c10, hr3, ok_ret b3 f2, ?_⟩
    refine (opcodeTake_c s3 (by omega)).mono ?_
    rintro e w4 ⟨A11, n12, c13, A14, n15, c16, rfl, o4, s4, b4⟩
    have f4 := f3.step b4
    refine ⟨A11, n12, c13, A14, n15, c16, _, rfl, ok_ret b4 f3, fun g18 hg18 w5 f5 b5 lo18 t18 => ?_⟩
    refine (ref10Take_c (s0.below (fr_below f5)) (by omega)).mono ?_
    rintro e w6 ⟨A19, n20, c21, A22, n23, c24, rfl, o6, s6, b6⟩
    rw [← take_same] at o6 s6 ⊢
    have f6 := f5.step b6
    refine ⟨A19, n20, c21, A22, n23, c24, _, rfl, ok_ret b6 f5, fun g26 hg26 g27 hg27 w7 f7 b7 lo27 t27 lo26 t26 => ?_⟩
    obtain ⟨w8, A28, n29, c30, hr8, s8, b8⟩ := app_new (P := Tryd.prog) (g := g27) 22 22 5 (.int .u8 0) 1 Tryd.underlying22 infoB1 rfl (s0.below (fr_below f7)) (by omega)
    have f8 := f7.step b8
    have l8 := s8.len
    refine ⟨w8, A28, n29, c30, hr8, ok_ret b8 f7, ?_⟩
    refine (opcodeWhole_c s8 (by omega)).mono ?_
    rintro e w9 ⟨A31, n32, c33, rfl, o9, b9⟩
    have f9 := f8.step b9
    refine ⟨A31, n32, c33, _, rfl, ok_ret b9 f8, fun g35 hg35 w10 f10 b10 lo35 t35 => ?_⟩
    refine (ref10Whole_c (s0.below (fr_below f10)) (by omega)).mono ?_
    rintro e w11 ⟨A36, n37, c38, rfl, o11, b11⟩
    have f11 := f10.step b11
    refine ⟨A36, n37, c38, _, rfl, ok_ret b11 f10, fun g40 hg40 w12 f12 b12 lo40 t40 => ?_⟩
    have b56 := b5.trans (b6.mono b5.size)
    have b412 := ((((((b56.trans (b7.mono b56.size)).trans (b8.mono (Nat.le_trans b56.size b7.size))).trans (b9.mono (Nat.le_trans (Nat.le_trans b56.size b7.size) b8.size))).trans (b10.mono (Nat.le_trans (Nat.le_trans (Nat.le_trans b56.size b7.size) b8.size) b9.size))).trans (b11.mono (Nat.le_trans (Nat.le_trans (Nat.le_trans (Nat.le_trans b56.size b7.size) b8.size) b9.size) b10.size))).trans (b12.mono (Nat.le_trans (Nat.le_trans (Nat.le_trans (Nat.le_trans (Nat.le_trans b56.size b7.size) b8.size) b9.size) b10.size) b11.size)))
    have b612 : Below w6.heap.size w6 w12 := (((((b7.trans (b8.mono b7.size)).trans (b9.mono (Nat.le_trans b7.size b8.size))).trans (b10.mono (Nat.le_trans (Nat.le_trans b7.size b8.size) b9.size))).trans (b11.mono (Nat.le_trans (Nat.le_trans (Nat.le_trans b7.size b8.size) b9.size) b10.size))).trans (b12.mono (Nat.le_trans (Nat.le_trans (Nat.le_trans (Nat.le_trans b7.size b8.size) b9.size) b10.size) b11.size)))
    have b912 : Below w9.heap.size w9 w12 := (b10.trans (b11.mono b10.size)).trans (b12.mono (Nat.le_trans b10.size b11.size))
    refine (ref_same_c (o4.below b412).sl (o6.below b612).sl).mono ?_
    rintro e w13 ⟨rfl, b13⟩
    have f13 := f12.step b13
    refine ⟨_, rfl, ok_ret b13 f12, ?_⟩
    refine (ref_same_c ((o9.below b912).below b13).sl ((o11.below b12).below b13).sl).mono ?_
    rintro e w14 ⟨rfl, b14⟩
    have f14 := f13.step b14
    refine ⟨_, rfl, ok_ret b14 f13, fun _ => ⟨fun _ => ⟨_, str_of (((s4.below b412).below b13).below b14), _, str_of (((s6.below b612).below b13).below b14), fun _ => ⟨fun _ => ⟨fun _ => ret_leaf f14 (by simp), fun hb => by simp at hb⟩, fun hne => absurd rfl hne⟩, fun hne => absurd rfl hne⟩, fun hb => by simp at hb⟩, fun hb => by cases hb⟩
  · skip
    -- both take the same
    intro g7 hg7 w2 f2 b2 lo7 t7
    obtain ⟨w3, A8, n9, c10, hr3, s3, b3⟩ := app_new (P := Tryd.prog) (g := g7) 22 22 5 (.int .u8 0) 1 Tryd.underlying22 infoB1 rfl (h1.below b2) (by omega)
    have f3 := f2.step b3
    have l3 := s3.len
    have lx := h1.len
    refine ⟨w3, A8, n9, c10, hr3, ok_ret b3 f2, ?_⟩
    refine (opcodeTake_c s3 (by omega)).mono ?_
    rintro e w4 ⟨A11, n12, c13, A14, n15, c16, rfl, o4, s4, b4⟩
    have f4 := f3.step b4
    refine ⟨A11, n12, c13, A14, n15, c16, _, rfl, ok_ret b4 f3, fun g18 hg18 w5 f5 b5 lo18 t18 => ?_⟩
    refine (ref10Take_c (h.below (fr_below f5)) (by omega)).mono ?_
    rintro e w6 ⟨A19, n20, c21, A22, n23, c24, rfl, o6, s6, b6⟩
    rw [← take_same] at o6 s6 ⊢
    have f6 := f5.step b6
    refine ⟨A19, n20, c21, A22, n23, c24, _, rfl, ok_ret b6 f5, fun g26 hg26 g27 hg27 w7 f7 b7 lo27 t27 lo26 t26 => ?_⟩
    obtain ⟨w8, A28, n29, c30, hr8, s8, b8⟩ := app_new (P := Tryd.prog) (g := g27) 22 22 5 (.int .u8 0) 1 Tryd.underlying22 infoB1 rfl (h.below (fr_below f7)) (by omega)
    have f8 := f7.step b8
    have l8 := s8.len
    refine ⟨w8, A28, n29, c30, hr8, ok_ret b8 f7, ?_⟩
    refine (opcodeWhole_c s8 (by omega)).mono ?_
    rintro e w9 ⟨A31, n32, c33, rfl, o9, b9⟩
    have f9 := f8.step b9
    refine ⟨A31, n32, c33, _, rfl, ok_ret b9 f8, fun g35 hg35 w10 f10 b10 lo35 t35 => ?_⟩
    refine (ref10Whole_c (h.below (fr_below f10)) (by omega)).mono ?_
    rintro e w11 ⟨A36, n37, c38, rfl, o11, b11⟩
    have f11 := f10.step b11
    refine ⟨A36, n37, c38, _, rfl, ok_ret b11 f10, fun g40 hg40 w12 f12 b12 lo40 t40 => ?_⟩
    have b56 := b5.trans (b6.mono b5.size)
    have b412 := ((((((b56.trans (b7.mono b56.size)).trans (b8.mono (Nat.le_trans b56.size b7.size))).trans (b9.mono (Nat.le_trans (Nat.le_trans b56.size b7.size) b8.size))).trans (b10.mono (Nat.le_trans (Nat.le_trans (Nat.le_trans b56.size b7.size) b8.size) b9.size))).trans (b11.mono (Nat.le_trans (Nat.le_trans (Nat.le_trans (Nat.le_trans b56.size b7.size) b8.size) b9.size) b10.size))).trans (b12.mono (Nat.le_trans (Nat.le_trans (Nat.le_trans (Nat.le_trans (Nat.le_trans b56.size b7.size) b8.size) b9.size) b10.size) b11.size)))
    have b612 : Below w6.heap.size w6 w12 := (((((b7.trans (b8.mono b7.size)).trans (b9.mono (Nat.le_trans b7.size b8.size))).trans (b10.mono (Nat.le_trans (Nat.le_trans b7.size b8.size) b9.size))).trans (b11.mono (Nat.le_trans (Nat.le_trans (Nat.le_trans b7.size b8.size) b9.size) b10.size))).trans (b12.mono (Nat.le_trans (Nat.le_trans (Nat.le_trans (Nat.le_trans b7.size b8.size) b9.size) b10.size) b11.size)))
    have b912 : Below w9.heap.size w9 w12 := (b10.trans (b11.mono b10.size)).trans (b12.mono (Nat.le_trans b10.size b11.size))
    refine (ref_same_c (o4.below b412).sl (o6.below b612).sl).mono ?_
    rintro e w13 ⟨rfl, b13⟩
    have f13 := f12.step b13
    refine ⟨_, rfl, ok_ret b13 f12, ?_⟩
    refine (ref_same_c ((o9.below b912).below b13).sl ((o11.below b12).below b13).sl).mono ?_
    rintro e w14 ⟨rfl, b14⟩
    have f14 := f13.step b14
    refine ⟨_, rfl, ok_ret b14 f13, fun _ => ⟨fun _ => ⟨_, str_of (((s4.below b412).below b13).below b14), _, str_of (((s6.below b612).below b13).below b14), fun _ => ⟨fun _ => ⟨fun _ => ret_leaf f14 (by simp), fun hb => by simp at hb⟩, fun hne => absurd rfl hne⟩, fun hne => absurd rfl hne⟩, fun hb => by simp at hb⟩, fun hb => by cases hb⟩
end Go.Proofs.YtfjenamomipmdaaDoor


/- Opcode: what was laid down is taken as it was, and nothing else is. -/
set_option linter.unusedSimpArgs false
set_option linter.unusedVariables false
namespace Go.Proofs.YtfjenamomipmdaaDoor
open Go Go.RowKit Go.Proofs Go.Trc Go.Sx
theorem u8_nat (y : Int) : ((u8 y).toNat : Int) = y % 256 := by
  have h0 := Int.emod_nonneg y (by decide : (256 : Int) ≠ 0)
  have h1 := Int.emod_lt_of_pos y (by decide : (0 : Int) < 256)
  have e2 : (u8 y).toNat = (y % 256).toNat := by
    unfold u8
    rw [UInt8.toNat_ofNat']
    omega
  rw [e2]; omega
theorem u8_eq {y : Int} {c : UInt8} (h : y % 256 = (c.toNat : Int)) : u8 y = c := by
  apply UInt8.toNat_inj.1
  have := u8_nat y
  omega
theorem bigV3 (a b c : UInt8) : bigV [a, b, c] = ((a.toNat : Int) * 256 + b.toNat) * 256 + c.toNat := by simp [bigV]
theorem ident_put {s n : Int} (h : idOk s n = true) (r : List UInt8) : identV (idB s n ++ r) = ((s, n), r, true) := by
  have hi := idOk_iff h
  have e1 : ((u8 s).toNat : Int) = s := by rw [u8_nat]; omega
  have e2 : bigV [u8 (n / 65536), u8 (n / 256), u8 n] = n := by rw [bigV3, u8_nat, u8_nat, u8_nat]; omega
  show identV (u8 s :: u8 (n / 65536) :: u8 (n / 256) :: u8 n :: r) = _
  rw [identV_cons, e1, e2, if_pos h]
theorem ident_take {bs r : List UInt8} {x : Int × Int} (h : identV bs = (x, r, true)) : bs = idB x.1 x.2 ++ r ∧ idOk x.1 x.2 = true := by
  rcases Nat.lt_or_ge bs.length 4 with hl | hl
  · rw [identV_short hl] at h; cases h
  obtain ⟨a, b, c, d, q, rfl⟩ := four_of hl
  rw [identV_cons] at h
  split at h
  · rename_i hok
    simp only [Prod.mk.injEq, and_true] at h
    obtain ⟨rfl, rfl⟩ := h
    refine ⟨?_, hok⟩
    have ha := a.toNat_lt; have hb := b.toNat_lt; have hc := c.toNat_lt; have hd := d.toNat_lt
    have h3 := bigV3 b c d
    show a :: b :: c :: d :: q = u8 a.toNat :: u8 (bigV [b, c, d] / 65536) :: u8 (bigV [b, c, d] / 256) :: u8 (bigV [b, c, d]) :: q
    rw [u8_eq (c := a) (by omega), u8_eq (c := b) (by omega), u8_eq (c := c) (by omega), u8_eq (c := d) (by omega)]
  · cases h
theorem idR_put {s n : Int} (h : idOk s n = true) (r : List UInt8) (b : Bool) : idR (idB s n ++ r, b) = ((s, n), (r, b)) := by
  unfold idR takenV
  rw [ident_put h]; simp
theorem not_or {b c : Bool} (h : (b || !c) = false) : b = false ∧ c = true := by cases b <;> cases c <;> simp_all
theorem idR_take {s : RS} {x : Int × Int} {r : List UInt8} (h : idR s = (x, (r, false))) : s = (idB x.1 x.2 ++ r, false) ∧ idOk x.1 x.2 = true := by
  obtain ⟨bs, b⟩ := s
  unfold idR takenV at h
  simp only [Prod.mk.injEq] at h
  obtain ⟨h1, h2, h3⟩ := h
  obtain ⟨rfl, h4⟩ := not_or h3
  have := ident_take (bs := bs) (x := x) (r := r) (by rw [← h1, ← h2, ← h4])
  exact ⟨by rw [← this.1], this.2⟩
theorem up_put {v : Int} {m : Nat} (h0 : 0 ≤ v) (h1 : v ≤ m) (hm : m ≤ 255) (r : List UInt8) (b : Bool) : takenV (uptoV m) (u8 v :: r, b) = (v, (r, b)) := by
  have e : ((u8 v).toNat : Int) = v := by rw [u8_nat]; omega
  rw [upto_cons, if_pos (by omega), e]
theorem up_take {s : RS} {v : Int} {m : Nat} {r : List UInt8} (h : takenV (uptoV m) s = (v, (r, false))) : s = (u8 v :: r, false) ∧ 0 ≤ v ∧ v ≤ m := by
  obtain ⟨bs, b⟩ := s
  cases bs with
  | nil => rw [upto_nil] at h; simp at h
  | cons c q =>
    rw [upto_cons] at h
    split at h
    · rename_i hc
      simp only [Prod.mk.injEq] at h
      obtain ⟨rfl, rfl, rfl⟩ := h
      have := c.toNat_lt
      exact ⟨by rw [u8_eq (c := c) (by omega)], by omega, by omega⟩
    · simp at h
theorem count_put (t : List UInt8) (h : t.length ≤ 255) (r : List UInt8) : countV (u8 t.length :: t ++ r) = (t, r, true) := by
  have e : ((u8 t.length).toNat : Int) = t.length := by rw [u8_nat]; omega
  have e' : (u8 t.length).toNat = t.length := by omega
  rw [List.cons_append, countV_cons, e', if_pos (by simp)]
  simp
theorem text_put (s : ByteArray) (h : s.size ≤ 255) (r : List UInt8) : textV (textB s ++ r) = (s, r, true) := by
  have hl : s.data.toList.length = s.size := by simp
  have := count_put s.data.toList (by omega) r
  rw [hl] at this
  unfold textV textB
  rw [this]
theorem text_take {bs r : List UInt8} {t : ByteArray} (h : textV bs = (t, r, true)) : bs = textB t ++ r ∧ t.size ≤ 255 := by
  unfold textV at h
  cases bs with
  | nil => simp [countV] at h
  | cons c q =>
    rw [countV_cons] at h
    split at h
    · rename_i hc
      simp only [Prod.mk.injEq, and_true] at h
      obtain ⟨rfl, rfl⟩ := h
      have hb := c.toNat_lt
      have hs : (⟨(q.take c.toNat).toArray⟩ : ByteArray).size = c.toNat := by
        show (q.take c.toNat).toArray.size = _
        rw [List.size_toArray, List.length_take]; omega
      refine ⟨?_, by omega⟩
      unfold textB
      rw [hs, u8_eq (c := c) (by omega)]
      simp
    · simp at h
theorem tText_put (s : ByteArray) (h : s.size ≤ 255) (r : List UInt8) (b : Bool) : takenV textV (textB s ++ r, b) = (s, (r, b)) := by unfold takenV; rw [text_put s h]; simp
theorem tText_take {s : RS} {t : ByteArray} {r : List UInt8} (h : takenV textV s = (t, (r, false))) : s = (textB t ++ r, false) := by
  obtain ⟨bs, b⟩ := s
  unfold takenV at h
  simp only [Prod.mk.injEq] at h
  obtain ⟨h1, h2, h3⟩ := h
  obtain ⟨rfl, h4⟩ := not_or h3
  have := text_take (bs := bs) (t := t) (r := r) (by rw [← h1, ← h2, ← h4])
  rw [← this.1]
theorem bigV8 (a b c d e f g h : UInt8) : bigV [a, b, c, d, e, f, g, h] = (((((((a.toNat : Int) * 256 + b.toNat) * 256 + c.toNat) * 256 + d.toNat) * 256 + e.toNat) * 256 + f.toNat) * 256 + g.toNat) * 256 + h.toNat := by simp [bigV]
theorem num_put (n : Int) (h : rng n) (r : List UInt8) : numV (numB n ++ r) = (n, r, true) := by
  unfold rng at h
  rw [numV_long (by simp [numB])]
  have e1 : (numB n ++ r).take 8 = numB n := List.take_left' rfl
  have e2 : (numB n ++ r).drop 8 = r := List.drop_left' rfl
  rw [e1, e2]
  have e3 : bigV (numB n) = n % 18446744073709551616 := by
    unfold numB
    rw [bigV8, u8_nat, u8_nat, u8_nat, u8_nat, u8_nat, u8_nat, u8_nat, u8_nat]
    omega
  have e4 : IntKind.i64.wrap (n % 18446744073709551616) = n := by rw [IntKind.wrap_i64]; omega
  rw [e3, e4]
theorem num_take {bs r : List UInt8} {n : Int} (h : numV bs = (n, r, true)) : bs = numB n ++ r := by
  rcases Nat.lt_or_ge bs.length 8 with hl | hl
  · rw [numV_short hl] at h; simp at h
  rw [numV_long hl] at h
  simp only [Prod.mk.injEq, and_true] at h
  obtain ⟨rfl, rfl⟩ := h
  match bs, hl with
  | a :: b :: c :: d :: e :: f :: g :: i :: q, _ =>
    have h8 := bigV8 a b c d e f g i
    show a :: b :: c :: d :: e :: f :: g :: i :: q = numB (IntKind.i64.wrap (bigV [a, b, c, d, e, f, g, i])) ++ q
    generalize bigV [a, b, c, d, e, f, g, i] = x at h8 ⊢
    have ha := a.toNat_lt; have hb := b.toNat_lt; have hc := c.toNat_lt; have hd := d.toNat_lt
    have he := e.toNat_lt; have hf := f.toNat_lt; have hg := g.toNat_lt; have hi := i.toNat_lt
    rw [IntKind.wrap_i64]
    unfold numB
    rw [u8_eq (c := a) (by omega), u8_eq (c := b) (by omega), u8_eq (c := c) (by omega), u8_eq (c := d) (by omega), u8_eq (c := e) (by omega), u8_eq (c := f) (by omega), u8_eq (c := g) (by omega), u8_eq (c := i) (by omega)]
    rfl
theorem tNum_put (n : Int) (h : rng n) (r : List UInt8) (b : Bool) : takenV numV (numB n ++ r, b) = (n, (r, b)) := by unfold takenV; rw [num_put n h]; simp
theorem tNum_take {s : RS} {n : Int} {r : List UInt8} (h : takenV numV s = (n, (r, false))) : s = (numB n ++ r, false) := by
  obtain ⟨bs, b⟩ := s
  unfold takenV at h
  simp only [Prod.mk.injEq] at h
  obtain ⟨h1, h2, h3⟩ := h
  obtain ⟨rfl, h4⟩ := not_or h3
  have := num_take (bs := bs) (n := n) (r := r) (by rw [← h1, ← h2, ← h4])
  rw [← this]
theorem corn_cases {a1 a2 a3 a4 a5 : Int} (h : cornerOk a1 a2 a3 a4 a5 = true) : idOk a1 a2 = true ∧ ((a3 = 0 ∧ a4 = 0 ∧ a5 = 0) ∨ (idOk a3 a4 = true ∧ (a5 = 0 ∨ a5 = 1))) := by
  unfold cornerOk at h
  rw [Bool.and_eq_true, Bool.or_eq_true, decide_eq_true_eq] at h
  refine ⟨h.1, h.2.imp id fun h2 => ?_⟩
  unfold dartOk at h2
  rw [Bool.and_eq_true, decide_eq_true_eq] at h2
  exact h2
theorem corn_put {a1 a2 a3 a4 a5 : Int} (h : cornerOk a1 a2 a3 a4 a5 = true) (r : List UInt8) (b : Bool) : cornR (cornB a1 a2 a3 a4 a5 ++ r, b) = ((a1, a2, a3, a4, a5), (r, b)) := by
  obtain ⟨h1, h2⟩ := corn_cases h
  unfold cornR cornB
  rcases h2 with ⟨rfl, rfl, rfl⟩ | ⟨h2, h5⟩
  · rw [if_pos ⟨rfl, rfl, rfl⟩, List.append_assoc, idR_put h1]
    have : takenV (uptoV 2) ([0] ++ r, b) = (0, (r, b)) := up_put (v := 0) (by decide) (by decide) (by decide) r b
    show cornK (a1, a2) (takenV (uptoV 2) ([0] ++ r, b)) = _
    rw [this]
    rfl
  · have hi := idOk_iff h2
    rw [if_neg (by omega), List.append_assoc, idR_put h1]
    have : takenV (uptoV 2) (u8 (a5 + 1) :: idB a3 a4 ++ r, b) = (a5 + 1, (idB a3 a4 ++ r, b)) := up_put (v := a5 + 1) (by omega) (by omega) (by decide) _ b
    show cornK (a1, a2) (takenV (uptoV 2) (u8 (a5 + 1) :: idB a3 a4 ++ r, b)) = _
    rw [this]
    unfold cornK
    rw [if_pos (by show 0 < a5 + 1; omega)]
    show ((a1, a2, (idR (idB a3 a4 ++ r, b)).1.1, (idR (idB a3 a4 ++ r, b)).1.2, a5 + 1 - 1), (idR (idB a3 a4 ++ r, b)).2) = _
    rw [idR_put h2, Int.add_sub_cancel]
theorem corn_take {s : RS} {x : Crn} {r : List UInt8} (h : cornR s = (x, (r, false))) : s = (cornB x.1 x.2.1 x.2.2.1 x.2.2.2.1 x.2.2.2.2 ++ r, false) := by
  have h' : cornK (idR s).1 (takenV (uptoV 2) (idR s).2) = (x, (r, false)) := h
  rcases hI : idR s with ⟨v, s1⟩
  rw [hI] at h'
  unfold cornK at h'
  split at h'
  · rename_i hpos
    rcases hN : takenV (uptoV 2) s1 with ⟨n, s2⟩
    rcases hE : idR s2 with ⟨e, s3⟩
    rw [hN] at hpos h'
    simp only [hE] at h'
    simp only [Prod.mk.injEq] at h'
    obtain ⟨rfl, rfl⟩ := h'
    obtain ⟨rfl, k1⟩ := idR_take hE
    obtain ⟨rfl, k2⟩ := up_take hN
    obtain ⟨rfl, k3⟩ := idR_take hI
    have hi := idOk_iff k1
    unfold cornB
    rw [if_neg (by show ¬ (e.1 = 0 ∧ e.2 = 0 ∧ n - 1 = 0); omega)]
    show (_, false) = (_, false)
    rw [Int.sub_add_cancel]
    simp
  · rename_i hz
    rcases hN : takenV (uptoV 2) s1 with ⟨n, s2⟩
    rw [hN] at hz h'
    simp only [Prod.mk.injEq] at h'
    obtain ⟨rfl, rfl⟩ := h'
    obtain ⟨rfl, k2⟩ := up_take hN
    obtain ⟨rfl, k3⟩ := idR_take hI
    have hn : n = 0 := by have hz : ¬ 0 < n := hz; omega
    subst hn
    unfold cornB
    rw [if_pos ⟨rfl, rfl, rfl⟩]
    have : u8 0 = 0 := rfl
    rw [this]
    simp
end Go.Proofs.YtfjenamomipmdaaDoor


/- Opcode: edits there and back. -/
set_option linter.unusedSimpArgs false
set_option linter.unusedVariables false
namespace Go.Proofs.YtfjenamomipmdaaDoor
open Go Go.RowKit Go.Proofs Go.Trc Go.Sx
theorem flag_put (x : Bool) (r : List UInt8) (b : Bool) : takenV (uptoV 1) (flagB x :: r, b) = ((if x then 1 else 0), (r, b)) := by
  cases x
  · exact up_put (v := 0) (by decide) (by decide) (by decide) r b
  · exact up_put (v := 1) (by decide) (by decide) (by decide) r b
theorem flag_take {s : RS} {v : Int} {r : List UInt8} (h : takenV (uptoV 1) s = (v, (r, false))) : s = (flagB (v == 1) :: r, false) := by
  obtain ⟨rfl, h0, h1⟩ := up_take h
  rcases (show v = 0 ∨ v = 1 by omega) with rfl | rfl <;> rfl
theorem attr_rng {n : Int} (h : attrOk n = true) : rng n := by
  unfold attrOk at h
  rw [Bool.and_eq_true, decide_eq_true_eq, decide_eq_true_eq] at h
  unfold rng; omega
theorem op_put {o : OpV} (hg : Good o) (r : List UInt8) (b : Bool) : opR (opB o ++ r, b) = (o, (r, b)) := by
  have hk := hg.kd
  have e1 : takenV (uptoV 8) (opB o ++ r, b) = (o.kd, (idB o.s o.n ++ (restB o ++ r), b)) := by
    have : opB o ++ r = u8 o.kd :: (idB o.s o.n ++ (restB o ++ r)) := by simp [opB]
    rw [this]
    exact up_put (by omega) (by omega) (by decide) _ _
  unfold opR
  rw [e1, idR_put hg.id]
  show opK o.kd (o.s, o.n) (restB o ++ r, b) = _
  have ho := hg.only
  unfold onlyV at ho
  unfold opK restB
  by_cases h3 : o.kd = 3
  · obtain ⟨k1, k2⟩ := hg.k3 h3
    rw [if_neg (by omega), if_pos h3] at ho
    rw [if_pos h3, if_pos h3, List.append_assoc, corn_put k1]
    show opK3 o.kd (o.s, o.n) _ (cornR (cornB o.b1 o.b2 o.b3 o.b4 o.b5 ++ r, b)) = _
    rw [corn_put k2]
    exact Prod.ext ho rfl
  rw [if_neg h3, if_neg h3]
  by_cases h5 : o.kd = 5
  · obtain ⟨k1, k2, k3, k4⟩ := hg.k5 h5
    rw [if_neg (by omega), if_neg h3, if_pos h5] at ho
    rw [if_pos h5, if_pos h5, List.append_assoc, List.append_assoc, idR_put k1]
    show opK5 o.kd (o.s, o.n) _ (idR (idB o.s2 o.n2 ++ ([u8 o.nn] ++ r), b)) (takenV (uptoV 3) (idR (idB o.s2 o.n2 ++ ([u8 o.nn] ++ r), b)).2) = _
    rw [idR_put k2]
    have : takenV (uptoV 3) ([u8 o.nn] ++ r, b) = (o.nn, (r, b)) := up_put k3 (by omega) (by decide) r b
    show opK5 o.kd (o.s, o.n) _ _ (takenV (uptoV 3) ([u8 o.nn] ++ r, b)) = _
    rw [this]
    exact Prod.ext ho rfl
  rw [if_neg h5, if_neg h5]
  by_cases h6 : o.kd = 6
  · rw [if_pos h6] at ho
    rw [if_pos h6, if_pos h6, idR_put (hg.k6 h6)]
    exact Prod.ext ho rfl
  rw [if_neg h6, if_neg h6]
  rw [if_neg h6, if_neg h3, if_neg h5] at ho
  by_cases h7 : o.kd = 7
  · have hs := label_size (hg.k7 h7)
    rw [if_pos h7] at ho
    rw [if_pos h7, if_pos h7, List.cons_append, flag_put]
    show opK7 o.kd (o.s, o.n) (if o.oe then 1 else 0) (takenV textV (textB o.tx ++ r, b)) = _
    rw [tText_put o.tx (by omega)]
    refine Prod.ext ?_ rfl
    rw [← ho]
    unfold opK7
    cases o.oe <;> rfl
  rw [if_neg h7, if_neg h7]
  rw [if_neg h7] at ho
  by_cases h8 : o.kd = 8
  · rw [if_pos h8] at ho
    rw [if_pos h8, if_pos h8, List.cons_append, flag_put]
    show opK8 o.kd (o.s, o.n) (if o.oe then 1 else 0) (takenV numV (numB o.nn ++ r, b)) = _
    rw [tNum_put o.nn (attr_rng (hg.k8 h8))]
    refine Prod.ext ?_ rfl
    rw [← ho]
    unfold opK8
    cases o.oe <;> rfl
  rw [if_neg h8, if_neg h8]
  rw [if_neg h8] at ho
  exact Prod.ext ho rfl
theorem op_take {bs r : List UInt8} {o : OpV} (h : opR (bs, false) = (o, (r, false))) (hg : Good o) : bs = opB o ++ r := by
  have h' : opK (takenV (uptoV 8) (bs, false)).1 (idR (takenV (uptoV 8) (bs, false)).2).1 (idR (takenV (uptoV 8) (bs, false)).2).2 = (o, (r, false)) := h
  rcases hK : takenV (uptoV 8) (bs, false) with ⟨k, s1⟩
  rw [hK] at h'
  rcases hI : idR s1 with ⟨i, s2⟩
  simp only [hI] at h'
  have fin : ∀ q, s2 = (q, false) → bs = u8 k :: (idB i.1 i.2 ++ q) := by
    rintro q rfl
    obtain ⟨rfl, _⟩ := idR_take hI
    have := (up_take hK).1
    simpa using this
  unfold opK at h'
  by_cases h3 : k = 3
  · rw [if_pos h3] at h'
    rcases hA : cornR s2 with ⟨a, s3⟩
    rw [hA] at h'
    rcases hB : cornR s3 with ⟨b, s4⟩
    simp only [hB] at h'
    unfold opK3 at h'
    simp only [Prod.mk.injEq] at h'
    obtain ⟨rfl, rfl⟩ := h'
    have e3 := corn_take hB
    subst e3
    have e2 := corn_take hA
    rw [fin _ e2]
    unfold opB restB
    rw [if_pos h3]
    simp
  rw [if_neg h3] at h'
  by_cases h5 : k = 5
  · rw [if_pos h5] at h'
    rcases hA : idR s2 with ⟨a, s3⟩
    rw [hA] at h'
    rcases hB : idR s3 with ⟨b, s4⟩
    simp only [hB] at h'
    rcases hC : takenV (uptoV 3) s4 with ⟨n, s5⟩
    rw [hC] at h'
    unfold opK5 at h'
    simp only [Prod.mk.injEq] at h'
    obtain ⟨rfl, rfl⟩ := h'
    obtain ⟨rfl, _⟩ := up_take hC
    obtain ⟨rfl, _⟩ := idR_take hB
    obtain ⟨e2, _⟩ := idR_take hA
    rw [fin _ e2]
    unfold opB restB
    rw [if_neg h3, if_pos h5]
    simp
  rw [if_neg h5] at h'
  by_cases h6 : k = 6
  · rw [if_pos h6] at h'
    rcases hA : idR s2 with ⟨a, s3⟩
    rw [hA] at h'
    unfold opK6 at h'
    simp only [Prod.mk.injEq] at h'
    obtain ⟨rfl, rfl⟩ := h'
    obtain ⟨e2, _⟩ := idR_take hA
    rw [fin _ e2]
    unfold opB restB
    rw [if_neg h3, if_neg h5, if_pos h6]
    simp
  rw [if_neg h6] at h'
  by_cases h7 : k = 7
  · rw [if_pos h7] at h'
    rcases hA : takenV (uptoV 1) s2 with ⟨f, s3⟩
    rw [hA] at h'
    rcases hB : takenV textV s3 with ⟨t, s4⟩
    simp only [hB] at h'
    unfold opK7 at h'
    simp only [Prod.mk.injEq] at h'
    obtain ⟨rfl, rfl⟩ := h'
    have e3 := tText_take hB
    subst e3
    have e2 := flag_take hA
    rw [fin _ e2]
    unfold opB restB
    rw [if_neg h3, if_neg h5, if_neg h6, if_pos h7]
    simp
  rw [if_neg h7] at h'
  by_cases h8 : k = 8
  · rw [if_pos h8] at h'
    rcases hA : takenV (uptoV 1) s2 with ⟨f, s3⟩
    rw [hA] at h'
    rcases hB : takenV numV s3 with ⟨t, s4⟩
    simp only [hB] at h'
    unfold opK8 at h'
    simp only [Prod.mk.injEq] at h'
    obtain ⟨rfl, rfl⟩ := h'
    have e3 := tNum_take hB
    subst e3
    have e2 := flag_take hA
    rw [fin _ e2]
    unfold opB restB
    rw [if_neg h3, if_neg h5, if_neg h6, if_neg h7, if_pos h8]
    simp
  rw [if_neg h8] at h'
  unfold opK0 at h'
  simp only [Prod.mk.injEq] at h'
  obtain ⟨rfl, rfl⟩ := h'
  rw [fin _ rfl]
  unfold opB restB
  rw [if_neg h3, if_neg h5, if_neg h6, if_neg h7, if_neg h8]
  simp
theorem runs_put : ∀ (l : List OpV) (r : List UInt8), (∀ o ∈ l, Good o) → runs opR l.length (l.flatMap opB ++ r, false) = (l, (r, false))
  | [], r, _ => rfl
  | o :: l, r, h => by
    rw [List.length_cons, List.flatMap_cons, List.append_assoc]
    simp only [runs]
    rw [if_neg (by decide), op_put (h o (by simp))]
    show (o :: (runs opR l.length (l.flatMap opB ++ r, false)).1, (runs opR l.length (l.flatMap opB ++ r, false)).2) = _
    rw [runs_put l r fun x hx => h x (List.mem_cons_of_mem _ hx)]
theorem runs_take : ∀ (k : Nat) (bs : List UInt8) (l : List OpV) (r : List UInt8), runs opR k (bs, false) = (l, (r, false)) → (∀ o ∈ l, Good o) → bs = l.flatMap opB ++ r
  | 0, bs, l, r, h, _ => by
    simp only [runs, Prod.mk.injEq] at h
    obtain ⟨rfl, rfl, _⟩ := h
    rfl
  | k + 1, bs, l, r, h, hg => by
    simp only [runs] at h
    rw [if_neg (by decide)] at h
    rcases hO : opR (bs, false) with ⟨o, s1⟩
    rw [hO] at h
    simp only [Prod.mk.injEq] at h
    obtain ⟨rfl, h2⟩ := h
    obtain ⟨q, b⟩ := s1
    cases b with
    | true =>
      have := runs_bad opR k (s := (q, true)) rfl
      rw [h2] at this; cases this
    | false =>
      rcases hR : runs opR k (q, false) with ⟨l', s2⟩
      simp only [hR] at h2 hg
      subst h2
      have e1 := runs_take k q l' r hR fun x hx => hg x (List.mem_cons_of_mem _ hx)
      have e2 := op_take hO (hg o (by simp))
      rw [e2, e1]
      simp [hR]
theorem take_put {l : List OpV} (h : mayEditV l = 0) (r : List UInt8) : takeR (editB l ++ r) = (l, r, 0) := by
  obtain ⟨hl, hg⟩ := may_good h
  have e1 : takenV (uptoV 6) (editB l ++ r, false) = ((l.length : Int), (l.flatMap opB ++ r, false)) := up_put (v := (l.length : Int)) (by omega) (by omega) (by decide) _ _
  unfold takeR
  rw [e1]
  show takeK _ (runs opR (l.length : Int).toNat (l.flatMap opB ++ r, false)) = _
  rw [Int.toNat_natCast, runs_put l r hg]
  unfold takeK
  rw [if_neg (by rintro (h1 | h1); exact absurd (show false = true from h1) (by decide); exact h1 h)]
theorem take_take {bs r : List UInt8} {l : List OpV} (h : takeR bs = (l, r, 0)) : bs = editB l ++ r ∧ mayEditV l = 0 := by
  unfold takeR takeK at h
  split at h
  · simp at h
  · rename_i hn
    rcases hK : takenV (uptoV 6) (bs, false) with ⟨k, s1⟩
    rw [hK] at h hn
    simp only [Prod.mk.injEq] at h
    have hlen := runs_len opR k.toNat s1
    rcases hX : runs opR k.toNat s1 with ⟨l', q, b⟩
    rw [hX] at h hn hlen
    obtain ⟨rfl, rfl, _⟩ := h
    have hb : b = false := by cases b with | false => rfl | true => exact absurd (.inl rfl) hn
    subst hb
    have hm : mayEditV l' = 0 := by
      rcases Decidable.em (mayEditV l' = 0) with h | h
      · exact h
      · exact absurd (.inr h) hn
    obtain ⟨hl, hg⟩ := may_good hm
    obtain ⟨xs, b⟩ := s1
    cases b with
    | true =>
      have := runs_bad opR k.toNat (s := (xs, true)) rfl
      rw [hX] at this; cases this
    | false =>
      have e1 := runs_take k.toNat xs l' q hX hg
      obtain ⟨e2, h0, h6⟩ := up_take hK
      have h7 := hlen (by simp)
      simp only [Prod.mk.injEq, and_true] at e2
      have h7 : l'.length = k.toNat := h7
      refine ⟨?_, hm⟩
      rw [e2, e1]
      unfold editB
      rw [h7]
      have : ((k.toNat : Nat) : Int) = k := by omega
      rw [this]
      simp
theorem take_else (bs : List UInt8) : (∃ l r, takeR bs = (l, r, 0)) ∨ takeR bs = ([], bs, 2) := by
  unfold takeR takeK
  split
  · exact .inr rfl
  · exact .inl ⟨_, _, rfl⟩
end Go.Proofs.YtfjenamomipmdaaDoor


/- OpcodeBack: the walk. -/
set_option linter.unusedSimpArgs false
set_option linter.unusedVariables false
namespace Go.Proofs.YtfjenamomipmdaaDoor
open Go Go.RowKit Go.Proofs Go.Trc Go.Sx
theorem eql_bool (W : World) (x y : Bool) : (binOp .eql 4 (.bool x) (.bool y)).run Tryd.prog W = .ok (.bool (x == y)) W := by
  go_simp
theorem editB_inj {a b : List OpV} (ha : mayEditV a = 0) (hb : mayEditV b = 0) (h : editB a = editB b) : a = b := by
  have h1 := take_put ha []
  have h2 := take_put hb []
  rw [h, h2] at h1
  simp only [Prod.mk.injEq] at h1
  exact h1.1.symm
theorem whole_put {a : List OpV} (ha : mayEditV a = 0) : wholeV (editB a) = (a, 0) := by
  have h1 := take_put ha []
  rw [List.append_nil] at h1
  unfold wholeV wholeK; rw [h1, if_neg (by simp)]
theorem whole_more {a : List OpV} (ha : mayEditV a = 0) {r : List UInt8} (hr : r ≠ []) : wholeV (editB a ++ r) = ([], 2) := by
  unfold wholeV wholeK; rw [take_put ha r, if_pos (.inr (List.length_pos_iff.2 hr))]
theorem whole_take {bs : List UInt8} {l : List OpV} (h : wholeV bs = (l, 0)) : bs = editB l ∧ mayEditV l = 0 := by
  unfold wholeV wholeK at h
  split at h
  · simp at h
  · rename_i hn
    rcases hX : takeR bs with ⟨l', r, k⟩
    rw [hX] at h hn
    simp only [Prod.mk.injEq, and_true] at h
    subst h
    have hk : k = 0 := by rcases Decidable.em (k = 0) with h | h; exact h; exact absurd (.inl h) hn
    have hr : r = [] := by cases r with | nil => rfl | cons x q => exact absurd (.inr (by simp)) hn
    subst hk; subst hr
    have := take_take hX
    rw [List.append_nil] at this
    exact this
theorem whole_else (bs : List UInt8) : (∃ l, wholeV bs = (l, 0)) ∨ wholeV bs = ([], 2) := by
  unfold wholeV wholeK
  split
  · exact .inr rfl
  · exact .inl ⟨_, rfl⟩
theorem whole_cut {a : List OpV} (ha : mayEditV a = 0) : wholeV ((editB a).take ((editB a).length - 1)) = ([], 2) := by
  rcases whole_else ((editB a).take ((editB a).length - 1)) with ⟨l, h⟩ | h
  · obtain ⟨e, hl⟩ := whole_take h
    have hne : editB a ≠ [] := by simp [editB]
    have e2 : editB l ++ [(editB a).getLast hne] = editB a := by rw [← e, ← List.dropLast_eq_take, List.dropLast_concat_getLast]
    have h1 := take_put ha []
    rw [List.append_nil, ← e2, take_put hl] at h1
    simp at h1
  · exact h
theorem put_ok {l : List OpV} (h : (putV [] l).2 = 0) : mayEditV l = 0 ∧ putV [] l = (editB l, 0) := by
  unfold putV at h ⊢
  split at h
  · rename_i hm; rw [if_pos hm]; exact ⟨hm, rfl⟩
  · rename_i hm; exact absurd h hm
theorem put_no {l : List OpV} (h : ¬ (putV [] l).2 = 0) : (putV [] l).1 = [] := by
  unfold putV at h ⊢
  split at h
  · exact absurd rfl h
  · rename_i hm; rw [if_neg hm]
theorem editB_len {l : List OpV} (h : mayEditV l = 0) : (editB l).length ≤ 241 ∧ 1 ≤ (editB l).length := by
  obtain ⟨hl, hg⟩ := may_good h
  have := flat_op_len hg
  simp [editB] at *
  omega
theorem past_old {w w' : World} {base g : Nat} {A : Option Addr} {n c : Nat} {xs : List OpV} (o : OwnF w base 39 (.slice A n c) xs) (q : Fr (fun b => b ∈ [g]) w w') (hg : g < base) : OwnF w' base 39 (.slice A n c) xs :=
  past_own o q fun hh => by have := Own.base o g hh; omega
theorem eq_bytes {a b : List OpV} (ha : mayEditV a = 0) (hb : mayEditV b = 0) : ((⟨(editB a).toArray⟩ : ByteArray).toList == (⟨(editB b).toArray⟩ : ByteArray).toList) = decide (a = b) := by
  rw [Bool.eq_iff_iff, beq_iff_eq, bytes_toList_inj, decide_eq_true_eq]
  constructor
  · intro h
    injection h with h
    exact editB_inj ha hb (by simpa using congrArg Array.toList h)
  · rintro rfl; rfl
theorem fewV_past {w w' : World} {base g : Nat} {A : Option Addr} {n c : Nat} {xs : List OpV} {C : Array Value} (o : OwnF w base 39 (.slice A n c) xs) (q : Fr (fun b => b ∈ [g]) w w') (hg : w.heap[g]? = some (.cells C 25 (0, 0))) : OwnF w' base 39 (.slice A n c) xs :=
  past_own o q (own_ne' o hg (by decide))
/-- A row of bytes is appended to, in a run that began at w0. -/
theorem app_b {w0 w : World} {A A2 : Option Addr} {n c n2 c2 : Nat} {xs ys : List UInt8} {G : List Nat} {ok : Nat → Prop} (h : Rw none w0 w0.heap.size 5 w (.slice A n c) xs G) (h2 : Sl w ok (.slice A2 n2 c2) ys) (hl : xs.length + ys.length ≤ 100000) :
    ∃ w' A' n' c', (Builtin.append_ #[22, 22] 22 #[.slice A n c, .slice A2 n2 c2]).run Tryd.prog w = .ok (.slice A' n' c') w' ∧ Mild G w w' ∧ Rw none w0 w0.heap.size 5 w' (.slice A' n' c') (xs ++ ys) G := by
  obtain ⟨w', A', n', c', hr, m, r⟩ := h.append 22 22 (.int .u8 0) 1 Tryd.underlying22 infoB1 rfl h2.arg (by omega) (by omega)
  exact ⟨w', A', n', c', hr, m.2, r⟩
set_option maxHeartbeats 4000000 in
theorem opcodeBack_wk {w : World} {ok ok' okm : Nat → Prop} {A A3 A6 : Option Addr} {n c n4 c5 n7 c8 : Nat} {l l2 : List OpV} {ms0 : List UInt8} (h : Sl w ok (.slice A n c) l) (h2 : Sl w ok' (.slice A3 n4 c5) l2) (hm : Sl w okm (.slice A6 n7 c8) ms0) :
    Calls Tryd.prog 7 #[.agg #[.slice A n c], .agg #[.slice A3 n4 c5], .slice A6 n7 c8] w (Ret (.bool true) w) := by
  refine opcodeBack_sx _ (fun _ => False) w A n c A3 n4 c5 A6 n7 c8 ?_
  intro g9 hg9 g10 hg10 w1 f1 b1 lo10 t10 lo9 t9
  refine (shown10_c w1).mono ?_
  rintro e w2 ⟨rfl, b2⟩
  have f2 := f1.step b2
  refine ⟨_, rfl, ok_ret b2 f1, ?_⟩
  refine (few10_c (h.below (fr_below f2))).mono ?_
  rintro e w3 ⟨A12, n13, c14, rfl, o3, b3⟩
  have f3 := f2.step b3
  have B13 : Below w1.heap.size w1 w3 := b2.trans (b3.mono b2.size)
  refine ⟨A12, n13, c14, rfl, ok_ret b3 f2, fun w4 f4 q4 => ?_⟩
  have o4 := past_old o3 q4 (by have := heap_lt t9; have := b2.size; omega)
  refine (few10_c (h2.below (fr_below f4))).mono ?_
  rintro e w5 ⟨A15, n16, c17, rfl, o5, b5⟩
  have f5 := f4.step b5
  have o5a := o4.below b5
  have z2 : w1.heap.size ≤ w2.heap.size := b2.size
  have z4 : w1.heap.size ≤ w4.heap.size := Nat.le_trans B13.size q4.size
  have l9 := heap_lt t9
  have l10 := heap_lt t10
  have hB0 : Below w.heap.size w w5 := fr_below f5
  refine ⟨A15, n16, c17, rfl, ok_ret b5 f4, fun hgt w6 f6 q6 => ?_, fun hle w6 f6 q6 => ?_⟩
  · obtain ⟨hr, hs⟩ := hi_b hm (k := 50) (by omega)
    refine ⟨A6, 50, c8, hr w6, ?_⟩
    have o6a := past_old o5a q6 (by omega)
    have o6b := past_old o5 q6 (by omega)
    have lt9w : g9 < w6.heap.size := by have := b5.size; have := q6.size; omega
    have lt10w : g10 < w6.heap.size := by have := b5.size; have := q6.size; omega
    generalize ms0.take 50 = ms at hs
    -- both are put; what follows
    refine (opcodePut_c (Sl.nil0 w6 (fun _ => True)) (by omega) o6a.sl).mono ?_
    rintro e w7 ⟨A21, n22, c23, rfl, o7, b7⟩
    have f7 := f6.step b7
    refine ⟨A21, n22, c23, _, rfl, ok_ret b7 f6, ?_⟩
    have o7b := o6b.below b7
    refine (opcodePut_c (Sl.nil0 w7 (fun _ => True)) (by omega) o7b.sl).mono ?_
    rintro e w8 ⟨A25, n26, c27, rfl, o8, b8⟩
    have f8 := f7.step b8
    have h22 := o7.sl.len
    refine ⟨A25, n26, c27, _, rfl, ok_ret b8 f7, fun hne => ⟨fun _ => ret_leaf f8 ?_, fun hb => by cases hb⟩, fun he => ⟨fun hne => ⟨fun _ => ret_leaf f8 rfl, fun hb => by cases hb⟩, fun he2 => ?_⟩⟩
    · rw [h22, put_no hne]; rfl
    obtain ⟨ma, pa⟩ := put_ok he
    obtain ⟨mb, pb⟩ := put_ok he2
    rw [pa] at o7 h22; rw [pb] at o8
    have h22 : n22 = (editB (fewV l)).length := h22
    have la := editB_len ma
    have o8a := o7.below b8
    have p8a := (o6a.below b7).below b8
    have p8b := o7b.below b8
    intro g29 hg29 w9 f9 b9 lo29 t29
    have B68 : Below w6.heap.size w6 w8 := b7.trans (b8.mono b7.size)
    have lt9 : g9 < w9.heap.size := Nat.lt_of_lt_of_le lt9w (Nat.le_trans B68.size b9.size)
    have lt10 : g10 < w9.heap.size := Nat.lt_of_lt_of_le lt10w (Nat.le_trans B68.size b9.size)
    have r9 : Rw none w8 w8.heap.size 5 w9 (.slice (some ⟨g29, 0, none⟩) 0 0) ([] : List UInt8) [g29, g10, g9] := Rw.first ((Fr.refl _ _).step b9) lo29 t29 (by
      intro k hk
      simp only [List.mem_cons, List.not_mem_nil, or_false] at hk
      rcases hk with rfl | rfl | rfl
      · exact heap_lt t29
      · exact lt10
      · exact lt9)
    obtain ⟨w10, A30, n31, c32, hr10, m10, r10⟩ := app_b r9 (o8a.below b9).sl (by simp only [List.length_nil]; omega)
    rw [List.nil_append] at r10
    have d10 := r10.done'.2
    refine ⟨w10, A30, n31, c32, hr10, ⟨f8.step d10, m10⟩, ?_⟩
    have lm := hs.len
    obtain ⟨w11, A33, n34, c35, hr11, m11, r11⟩ := app_b r10 (hs.below (fr_below (f8.step d10))) (by omega)
    have d11 := r11.done'.2
    have f11 := f8.step d11
    refine ⟨w11, A33, n34, c35, hr11, ⟨f11, m11⟩, ?_⟩
    have h34 := r11.own.sl.len
    rw [List.length_append] at h34
    refine (opcodeTake_c r11.own.sl (by omega)).mono ?_
    rintro e w12 ⟨A36, n37, c38, A39, n40, c41, rfl, o12, s12, b12⟩
    rw [take_put ma ms] at o12 s12
    have f12 := f11.step b12
    have B812 : Below w8.heap.size w8 w12 := d11.trans (b12.mono d11.size)
    refine ⟨A36, n37, c38, A39, n40, c41, _, rfl, ok_ret b12 f11, fun g43 hg43 w13 f13 b13 lo43 t43 => ?_⟩
    have B813 := B812.trans (b13.mono B812.size)
    refine (ref_same_c (o12.below b13).sl (p8a.below B813).sl).mono ?_
    rintro e w14 ⟨rfl, b14⟩
    have f14 := f13.step b14
    have B814 := B813.trans (b14.mono B813.size)
    refine ⟨_, rfl, ok_ret b14 f13, ?_⟩
    refine (ref_same_c (p8a.below B814).sl (p8b.below B814).sl).mono ?_
    rintro e w15 ⟨rfl, b15⟩
    have f15 := f14.step b15
    have B815 := B814.trans (b15.mono B814.size)
    refine ⟨_, rfl, ok_ret b15 f14, fun h0 => by omega, fun h0 => ?_⟩
    have o15' := o8a.below B815
    obtain ⟨hrc, sc⟩ := hi_b o15'.sl (k := n22 - 1) (by omega)
    have hk : IntKind.i64.wrap ((n22 : Int) - 1) = ((n22 - 1 : Nat) : Int) := by rw [wrap_in (by omega)]; omega
    rw [hk]
    refine ⟨A21, n22 - 1, c23, hrc w15, ?_⟩
    refine (opcodeWhole_c sc (by omega)).mono ?_
    rintro e w16 ⟨A49, n50, c51, rfl, o16, b16⟩
    rw [h22, whole_cut ma] at o16
    have f16 := f15.step b16
    have B816 := B815.trans (b16.mono B815.size)
    have hw2 : (wholeV ((editB (fewV l)).take (n22 - 1))).2 = 2 := by rw [h22, whole_cut ma]
    refine ⟨A49, n50, c51, _, rfl, ok_ret b16 f15, fun g53 hg53 g54 hg54 w17 f17 b17 lo54 t54 lo53 t53 => ?_⟩
    have z9 : w9.heap.size ≤ w17.heap.size ∧ w13.heap.size ≤ w17.heap.size := by
      have := m10.1; have := m11.1; have := b12.size; have := b13.size; have := b14.size; have := b15.size; have := b16.size; have := b17.size
      omega
    have l29 := heap_lt t29
    have l43 := heap_lt t43
    have r17 : Rw none w16 w16.heap.size 5 w17 (.slice (some ⟨g54, 0, none⟩) 0 0) ([] : List UInt8) [g54, g53, g43, g29, g10, g9] := Rw.first ((Fr.refl _ _).step b17) lo54 t54 (by
      intro k hk
      simp only [List.mem_cons, List.not_mem_nil, or_false] at hk
      rcases hk with rfl | rfl | rfl | rfl | rfl | rfl
      · exact heap_lt t54
      · exact heap_lt t53
      · omega
      · omega
      · omega
      · omega)
    have B817 := B816.trans (b17.mono B816.size)
    obtain ⟨w18, A55, n56, c57, hr18, m18, r18⟩ := app_b r17 (o8a.below B817).sl (by simp only [List.length_nil]; omega)
    rw [List.nil_append] at r18
    have d18 := r18.done'.2
    refine ⟨w18, A55, n56, c57, hr18, ⟨f16.step d18, m18⟩, fun g58 hg58 w19 f19 b19 lo58 t58 => ?_⟩
    have r19 := r18.on b19 [g58] (by simp only [List.mem_singleton]; rintro _ rfl; exact ⟨lo58, heap_lt t58⟩)
    obtain ⟨w20, A59, n60, c61, hr20, m20, r20⟩ := r19.append 22 22 (.int .u8 0) 1 Tryd.underlying22 infoB1 rfl (arg_b [0] 1 rfl _ rfl t58 (by omega)) (by simp only [List.length_cons, List.length_nil]; omega) (by simp only [List.length_cons, List.length_nil]; omega)
    have d20 := r20.done'.2
    have f20 := f16.step d20
    have h60 := r20.own.sl.len
    rw [List.length_append] at h60
    refine ⟨w20, A59, n60, c61, hr20, ⟨f20, m20.2⟩, ?_⟩
    refine (opcodeWhole_c r20.own.sl (by simp only [List.length_cons, List.length_nil] at h60; omega)).mono ?_
    rintro e w21 ⟨A62, n63, c64, rfl, o21, b21⟩
    have hw3 : (wholeV (editB (fewV l) ++ [0])).2 = 2 := by rw [whole_more ma (by simp)]
    have f21 := f20.step b21
    have B821 := B816.trans ((d20.trans (b21.mono d20.size)).mono B816.size)
    have B1216 : Below w12.heap.size w12 w16 := ((b13.trans (b14.mono b13.size)).trans (b15.mono (Nat.le_trans b13.size b14.size))).trans (b16.mono (Nat.le_trans (Nat.le_trans b13.size b14.size) b15.size))
    have B1221 := B1216.trans ((d20.trans (b21.mono d20.size)).mono B1216.size)
    refine ⟨A62, n63, c64, _, rfl, ok_ret b21 f20, fun g66 hg66 => ⟨fun _ => ⟨fun _ => ⟨fun _ w22 f22 b22 lo t => ?_, fun hb => by simp at hb⟩, fun hne => by rw [take_put ma ms] at hne; exact absurd rfl hne⟩, fun hb => by cases hb⟩⟩
    have B822 := B821.trans (b22.mono B821.size)
    have B1222 := B1221.trans (b22.mono B1221.size)
    refine ⟨_, str_of (s12.below B1222), _, str_of (hs.below (fr_below f22)), fun _ => ⟨_, str_of (o8a.below B822).sl, _, str_of (o8.below B822).sl, _, eql_bool .., fun _ => ⟨fun _ => ret_leaf f22 (by rw [hw3]; rfl), fun hne => absurd hw2 hne⟩, fun hbf => ?_⟩, fun hne => absurd rfl hne⟩
    rw [eq_bytes ma mb] at hbf
    simp at hbf
  · have hs := hm
    have o6a := past_old o5a q6 (by omega)
    have o6b := past_old o5 q6 (by omega)
    have lt9w : g9 < w6.heap.size := by have := b5.size; have := q6.size; omega
    have lt10w : g10 < w6.heap.size := by have := b5.size; have := q6.size; omega
    generalize ms0 = ms at hs
    -- both are put; what follows
    refine (opcodePut_c (Sl.nil0 w6 (fun _ => True)) (by omega) o6a.sl).mono ?_
    rintro e w7 ⟨A21, n22, c23, rfl, o7, b7⟩
    have f7 := f6.step b7
    refine ⟨A21, n22, c23, _, rfl, ok_ret b7 f6, ?_⟩
    have o7b := o6b.below b7
    refine (opcodePut_c (Sl.nil0 w7 (fun _ => True)) (by omega) o7b.sl).mono ?_
    rintro e w8 ⟨A25, n26, c27, rfl, o8, b8⟩
    have f8 := f7.step b8
    have h22 := o7.sl.len
    refine ⟨A25, n26, c27, _, rfl, ok_ret b8 f7, fun hne => ⟨fun _ => ret_leaf f8 ?_, fun hb => by cases hb⟩, fun he => ⟨fun hne => ⟨fun _ => ret_leaf f8 rfl, fun hb => by cases hb⟩, fun he2 => ?_⟩⟩
    · rw [h22, put_no hne]; rfl
    obtain ⟨ma, pa⟩ := put_ok he
    obtain ⟨mb, pb⟩ := put_ok he2
    rw [pa] at o7 h22; rw [pb] at o8
    have h22 : n22 = (editB (fewV l)).length := h22
    have la := editB_len ma
    have o8a := o7.below b8
    have p8a := (o6a.below b7).below b8
    have p8b := o7b.below b8
    intro g29 hg29 w9 f9 b9 lo29 t29
    have B68 : Below w6.heap.size w6 w8 := b7.trans (b8.mono b7.size)
    have lt9 : g9 < w9.heap.size := Nat.lt_of_lt_of_le lt9w (Nat.le_trans B68.size b9.size)
    have lt10 : g10 < w9.heap.size := Nat.lt_of_lt_of_le lt10w (Nat.le_trans B68.size b9.size)
    have r9 : Rw none w8 w8.heap.size 5 w9 (.slice (some ⟨g29, 0, none⟩) 0 0) ([] : List UInt8) [g29, g10, g9] := Rw.first ((Fr.refl _ _).step b9) lo29 t29 (by
      intro k hk
      simp only [List.mem_cons, List.not_mem_nil, or_false] at hk
      rcases hk with rfl | rfl | rfl
      · exact heap_lt t29
      · exact lt10
      · exact lt9)
    obtain ⟨w10, A30, n31, c32, hr10, m10, r10⟩ := app_b r9 (o8a.below b9).sl (by simp only [List.length_nil]; omega)
    rw [List.nil_append] at r10
    have d10 := r10.done'.2
    refine ⟨w10, A30, n31, c32, hr10, ⟨f8.step d10, m10⟩, ?_⟩
    have lm := hs.len
    obtain ⟨w11, A33, n34, c35, hr11, m11, r11⟩ := app_b r10 (hs.below (fr_below (f8.step d10))) (by omega)
    have d11 := r11.done'.2
    have f11 := f8.step d11
    refine ⟨w11, A33, n34, c35, hr11, ⟨f11, m11⟩, ?_⟩
    have h34 := r11.own.sl.len
    rw [List.length_append] at h34
    refine (opcodeTake_c r11.own.sl (by omega)).mono ?_
    rintro e w12 ⟨A36, n37, c38, A39, n40, c41, rfl, o12, s12, b12⟩
    rw [take_put ma ms] at o12 s12
    have f12 := f11.step b12
    have B812 : Below w8.heap.size w8 w12 := d11.trans (b12.mono d11.size)
    refine ⟨A36, n37, c38, A39, n40, c41, _, rfl, ok_ret b12 f11, fun g43 hg43 w13 f13 b13 lo43 t43 => ?_⟩
    have B813 := B812.trans (b13.mono B812.size)
    refine (ref_same_c (o12.below b13).sl (p8a.below B813).sl).mono ?_
    rintro e w14 ⟨rfl, b14⟩
    have f14 := f13.step b14
    have B814 := B813.trans (b14.mono B813.size)
    refine ⟨_, rfl, ok_ret b14 f13, ?_⟩
    refine (ref_same_c (p8a.below B814).sl (p8b.below B814).sl).mono ?_
    rintro e w15 ⟨rfl, b15⟩
    have f15 := f14.step b15
    have B815 := B814.trans (b15.mono B814.size)
    refine ⟨_, rfl, ok_ret b15 f14, fun h0 => by omega, fun h0 => ?_⟩
    have o15' := o8a.below B815
    obtain ⟨hrc, sc⟩ := hi_b o15'.sl (k := n22 - 1) (by omega)
    have hk : IntKind.i64.wrap ((n22 : Int) - 1) = ((n22 - 1 : Nat) : Int) := by rw [wrap_in (by omega)]; omega
    rw [hk]
    refine ⟨A21, n22 - 1, c23, hrc w15, ?_⟩
    refine (opcodeWhole_c sc (by omega)).mono ?_
    rintro e w16 ⟨A49, n50, c51, rfl, o16, b16⟩
    rw [h22, whole_cut ma] at o16
    have f16 := f15.step b16
    have B816 := B815.trans (b16.mono B815.size)
    have hw2 : (wholeV ((editB (fewV l)).take (n22 - 1))).2 = 2 := by rw [h22, whole_cut ma]
    refine ⟨A49, n50, c51, _, rfl, ok_ret b16 f15, fun g53 hg53 g54 hg54 w17 f17 b17 lo54 t54 lo53 t53 => ?_⟩
    have z9 : w9.heap.size ≤ w17.heap.size ∧ w13.heap.size ≤ w17.heap.size := by
      have := m10.1; have := m11.1; have := b12.size; have := b13.size; have := b14.size; have := b15.size; have := b16.size; have := b17.size
      omega
    have l29 := heap_lt t29
    have l43 := heap_lt t43
    have r17 : Rw none w16 w16.heap.size 5 w17 (.slice (some ⟨g54, 0, none⟩) 0 0) ([] : List UInt8) [g54, g53, g43, g29, g10, g9] := Rw.first ((Fr.refl _ _).step b17) lo54 t54 (by
      intro k hk
      simp only [List.mem_cons, List.not_mem_nil, or_false] at hk
      rcases hk with rfl | rfl | rfl | rfl | rfl | rfl
      · exact heap_lt t54
      · exact heap_lt t53
      · omega
      · omega
      · omega
      · omega)
    have B817 := B816.trans (b17.mono B816.size)
    obtain ⟨w18, A55, n56, c57, hr18, m18, r18⟩ := app_b r17 (o8a.below B817).sl (by simp only [List.length_nil]; omega)
    rw [List.nil_append] at r18
    have d18 := r18.done'.2
    refine ⟨w18, A55, n56, c57, hr18, ⟨f16.step d18, m18⟩, fun g58 hg58 w19 f19 b19 lo58 t58 => ?_⟩
    have r19 := r18.on b19 [g58] (by simp only [List.mem_singleton]; rintro _ rfl; exact ⟨lo58, heap_lt t58⟩)
    obtain ⟨w20, A59, n60, c61, hr20, m20, r20⟩ := r19.append 22 22 (.int .u8 0) 1 Tryd.underlying22 infoB1 rfl (arg_b [0] 1 rfl _ rfl t58 (by omega)) (by simp only [List.length_cons, List.length_nil]; omega) (by simp only [List.length_cons, List.length_nil]; omega)
    have d20 := r20.done'.2
    have f20 := f16.step d20
    have h60 := r20.own.sl.len
    rw [List.length_append] at h60
    refine ⟨w20, A59, n60, c61, hr20, ⟨f20, m20.2⟩, ?_⟩
    refine (opcodeWhole_c r20.own.sl (by simp only [List.length_cons, List.length_nil] at h60; omega)).mono ?_
    rintro e w21 ⟨A62, n63, c64, rfl, o21, b21⟩
    have hw3 : (wholeV (editB (fewV l) ++ [0])).2 = 2 := by rw [whole_more ma (by simp)]
    have f21 := f20.step b21
    have B821 := B816.trans ((d20.trans (b21.mono d20.size)).mono B816.size)
    have B1216 : Below w12.heap.size w12 w16 := ((b13.trans (b14.mono b13.size)).trans (b15.mono (Nat.le_trans b13.size b14.size))).trans (b16.mono (Nat.le_trans (Nat.le_trans b13.size b14.size) b15.size))
    have B1221 := B1216.trans ((d20.trans (b21.mono d20.size)).mono B1216.size)
    refine ⟨A62, n63, c64, _, rfl, ok_ret b21 f20, fun g66 hg66 => ⟨fun _ => ⟨fun _ => ⟨fun _ w22 f22 b22 lo t => ?_, fun hb => by simp at hb⟩, fun hne => by rw [take_put ma ms] at hne; exact absurd rfl hne⟩, fun hb => by cases hb⟩⟩
    have B822 := B821.trans (b22.mono B821.size)
    have B1222 := B1221.trans (b22.mono B1221.size)
    refine ⟨_, str_of (s12.below B1222), _, str_of (hs.below (fr_below f22)), fun _ => ⟨_, str_of (o8a.below B822).sl, _, str_of (o8.below B822).sl, _, eql_bool .., fun _ => ⟨fun _ => ret_leaf f22 (by rw [hw3]; rfl), fun hne => absurd hw2 hne⟩, fun hbf => ?_⟩, fun hne => absurd rfl hne⟩
    rw [eq_bytes ma mb] at hbf
    simp at hbf
theorem opcodeBack_walk (w : World) (v1 : Value) (l : List OpV) (h1 : Rep.K w (fun b => b < w.heap.size) l v1.cells.toList) (z1 : ∃ cs : Array Value, v1 = .agg cs)
    (v2 : Value) (l2 : List OpV) (h2 : Rep.K w (fun b => b < w.heap.size) l2 v2.cells.toList) (z2 : ∃ cs : Array Value, v2 = .agg cs) (A : Option Addr) (n c : Nat) (xs : List UInt8) (h : Sl w (fun b => b < w.heap.size) (.slice A n c) xs) :
    Calls Tryd.prog 7 #[v1, v2, .slice A n c] w fun e w' => e = .returned (.bool true) ∧ Below w.heap.size w w' := by
  obtain ⟨A1, n1, c1, rfl, s1⟩ := edit_of h1 z1
  obtain ⟨A2, n2, c2, rfl, s2⟩ := edit_of h2 z2
  exact opcodeBack_wk s1 s2 h
end Go.Proofs.YtfjenamomipmdaaDoor
