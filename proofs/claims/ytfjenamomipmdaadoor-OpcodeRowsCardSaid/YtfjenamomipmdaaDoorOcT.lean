/- Opcode: what the takers take from bytes: the others. -/
import Derived.Test.YtfjenamomipmdaaDoorOcS
set_option linter.unusedSimpArgs false
set_option linter.unusedVariables false
namespace Go.Proofs.YtfjenamomipmdaaDoor
open Go Go.RowKit Go.Proofs Go.Trc Go.Sx
set_option maxHeartbeats 1000000 in
theorem ref01Take_c {w : World} {ok : Nat → Prop} {A : Option Addr} {n c : Nat} {xs : List UInt8} (h : Sl w ok (.slice A n c) xs) : Calls Tryd.prog 101 #[.slice A n c] w (TakeR w ok encP (identV xs)) := by
  have hn := h.len
  refine ref01Take_sx _ (fun _ => False) w A n c ?_
  intro g3 hg3
  refine ⟨fun hlt w1 f1 b1 lo t => ?_, fun hge w1 f1 b1 lo3 t3 => ?_⟩
  · rw [identV_short (by omega)]; exact ⟨A, n, c, rfl, h, b1⟩
  obtain ⟨a, b, d, f, r, rfl⟩ := four_of (xs := xs) (by omega)
  have h1 := h.below b1
  obtain ⟨p, o, hA, hp, -⟩ := byte_at h1 0 (by simp)
  refine ⟨by omega, by omega, p, o, hA, fun w2 f2 b2 => ?_⟩
  have h2 := h1.below b2
  have at_ : ∀ k (hk : k < (a :: b :: d :: f :: r).length), CellsAt w2 p (o + k * 1 + 0) [.int .u8 (((a :: b :: d :: f :: r)[k].toNat : Nat) : Int)] := fun k hk => by
    obtain ⟨p', o', hA', -, c1⟩ := byte_at h2 k hk
    rw [hA] at hA'; injection hA' with e1; injection e1 with e1 e2; subst e1; subst e2
    exact c1
  refine ⟨_, at_ 0 (by simp), ⟨hp, by simp⟩, by omega, by omega, p, o, hA, _, at_ 1 (by simp), ⟨hp, by simp⟩, by omega, by omega, p, o, hA, _, at_ 2 (by simp), ⟨hp, by simp⟩, by omega, by omega, p, o, hA, _, at_ 3 (by simp), ⟨hp, by simp⟩, ?_⟩
  intro g17 hg17 w3 f3 b3 lo17 t17
  have hb := b.toNat_lt; have hd := d.toNat_lt; have hf := f.toNat_lt
  have e0 : IntKind.i64.wrap (((a :: b :: d :: f :: r)[0].toNat : Nat) : Int) = (a.toNat : Int) := i64_byte a
  have e1 : IntKind.i64.wrap (((a :: b :: d :: f :: r)[1].toNat : Nat) : Int) = (b.toNat : Int) := i64_byte b
  have e2 : IntKind.i64.wrap (((a :: b :: d :: f :: r)[2].toNat : Nat) : Int) = (d.toNat : Int) := i64_byte d
  have e3 : IntKind.i64.wrap (((a :: b :: d :: f :: r)[3].toNat : Nat) : Int) = (f.toNat : Int) := i64_byte f
  rw [e0, e1, e2, e3]
  have hN : IntKind.i64.wrap (IntKind.i64.wrap (IntKind.i64.wrap (65536 * (b.toNat : Int)) + IntKind.i64.wrap (256 * (d.toNat : Int))) + (f.toNat : Int)) = bigV [b, d, f] := by
    simp (disch := omega) only [wrap_in]
    simp only [bigV, List.foldl_cons, List.foldl_nil]
    omega
  rw [hN]
  refine (ref01_may_c w3 a.toNat (bigV [b, d, f])).mono ?_
  rintro e w4 ⟨rfl, b4⟩
  have f4 := f3.step b4
  refine ⟨_, rfl, ok_ret b4 f3, fun hb w5 f5 q5 => ?_, fun hb => ⟨fun w5 f5 b5 => ?_, fun w5 f5 q5 => ?_⟩⟩
  · rw [identV_cons, if_neg (by rw [hb]; decide)]
    exact ⟨A, n, c, rfl, h, fr_below f5⟩
  · obtain ⟨A9, hr9, s9⟩ := lo_b h (k := 4) (by omega)
    refine ⟨A9, _, _, fun w' _ => hr9 w', fun w6 f6 q6 => ?_⟩
    rw [identV_cons, if_pos hb]
    exact ⟨A9, _, _, rfl, s9, fr_below f6⟩
  · obtain ⟨A9, hr9, s9⟩ := lo_b h (k := 4) (by omega)
    refine ⟨A9, _, _, hr9 w5, ?_⟩
    rw [identV_cons, if_pos hb]
    exact ⟨A9, _, _, rfl, s9, fr_below f5⟩
theorem numV_short {xs : List UInt8} (h : xs.length < 8) : numV xs = (0, xs, false) := by unfold numV; rw [if_pos h]
theorem numV_long {xs : List UInt8} (h : 8 ≤ xs.length) : numV xs = (IntKind.i64.wrap (bigV (xs.take 8)), xs.drop 8, true) := by unfold numV; rw [if_neg (by omega)]
theorem pow_le8 {k : Nat} (h : k < 8) : (256 : Int) ^ k ≤ 72057594037927936 := by
  rcases (show k = 0 ∨ k = 1 ∨ k = 2 ∨ k = 3 ∨ k = 4 ∨ k = 5 ∨ k = 6 ∨ k = 7 by omega) with h | h | h | h | h | h | h | h <;> rw [h] <;> decide
set_option maxHeartbeats 1000000 in
theorem takeNum_c {w : World} {ok : Nat → Prop} {A : Option Addr} {n c : Nat} {xs : List UInt8} (h : Sl w ok (.slice A n c) xs) : Calls Tryd.prog 51 #[.slice A n c] w (TakeR w ok encI (numV xs)) := by
  have hn := h.len
  refine takeNum_sx _ (fun _ => False) w A n c ⟨fun hlt => ?_, fun hge => ?_⟩
  · rw [numV_short (by omega)]; exact ⟨A, n, c, rfl, h, Below.refl _ _⟩
  obtain ⟨hr8, s8⟩ := hi_b h (k := 8) (by omega)
  have hl8 : (xs.take 8).length = 8 := by rw [List.length_take]; omega
  refine ⟨A, 8, c, hr8 w, fun x i w' => ∃ k : Nat, i = (k : Int) ∧ k ≤ 8 ∧ x = bigV ((xs.take 8).take k), fun _ i _ => (8 - i).toNat, ⟨0, rfl, by omega, rfl⟩, ?_⟩
  rintro _ _ w1 f1 ⟨k, rfl, hk, rfl⟩
  refine ⟨fun hlt => ?_, fun hge3 => ?_⟩
  · have hk3 : k < 8 := by omega
    obtain ⟨p3, o3, hA3, -, c3⟩ := byte_at (s8.below (fr_below f1)) k (by omega)
    refine ⟨by omega, hlt, p3, o3, hA3, _, by simpa using c3, ⟨k + 1, by rw [wrap_in (by omega)]; rfl, by omega, ?_⟩, by dsimp only; rw [wrap_in (by omega)]; omega⟩
    have hv := bigV_lt ((xs.take 8).take k)
    have hl : ((xs.take 8).take k).length = k := by rw [List.length_take, hl8]; omega
    rw [hl] at hv
    have := pow_le8 hk3
    rw [or_low_u ⟨hv.1, by omega⟩, take_snoc (xs.take 8) k (by omega), bigV_snoc, List.getElem_take]
  · obtain rfl : k = 8 := by omega
    intro w2 f2 b2
    obtain ⟨A9, hr9, s9⟩ := lo_b h (k := 8) (by omega)
    refine ⟨A9, _, _, fun w' _ => hr9 w', ?_⟩
    rw [numV_long (by omega), (List.take_of_length_le (by omega) : (xs.take 8).take 8 = xs.take 8)]
    exact ⟨A9, _, _, rfl, s9, fr_below f2⟩
set_option maxHeartbeats 1000000 in
theorem ref08TakeNum_c {w : World} {ok : Nat → Prop} {A : Option Addr} {n c : Nat} {xs : List UInt8} (h : Sl w ok (.slice A n c) xs) : Calls Tryd.prog 52 #[.slice A n c] w (TakeR w ok encI (numV xs)) := by
  have hn := h.len
  refine ref08TakeNum_sx _ (fun _ => False) w A n c ⟨fun hlt => ?_, fun hge => ?_⟩
  · rw [numV_short (by omega)]; exact ⟨A, n, c, rfl, h, Below.refl _ _⟩
  refine ⟨fun x i w' => ∃ k : Nat, i = (k : Int) ∧ k ≤ 8 ∧ x = bigV (xs.take k), fun _ i _ => (8 - i).toNat, ⟨0, rfl, by omega, rfl⟩, ?_⟩
  rintro _ _ w1 f1 ⟨k, rfl, hk, rfl⟩
  refine ⟨fun hlt => ?_, fun hge3 => ?_⟩
  · have hk3 : k < 8 := by omega
    obtain ⟨p3, o3, hA3, -, c3⟩ := byte_at (h.below (fr_below f1)) k (by omega)
    refine ⟨by omega, by omega, p3, o3, hA3, _, by simpa using c3, ⟨k + 1, by rw [wrap_in (by omega)]; rfl, by omega, ?_⟩, by dsimp only; rw [wrap_in (by omega)]; omega⟩
    have hv := bigV_lt (xs.take k)
    have hl : (xs.take k).length = k := by rw [List.length_take]; omega
    rw [hl] at hv
    have := pow_le8 hk3
    have hb := (xs[k]'(by omega)).toNat_lt
    rw [take_snoc xs k (by omega), bigV_snoc, u64_byte, u64_wrap, u64_wrap]
    omega
  · obtain rfl : k = 8 := by omega
    intro w2 f2 b2
    obtain ⟨A9, hr9, s9⟩ := lo_b h (k := 8) (by omega)
    refine ⟨A9, _, _, fun w' _ => hr9 w', ?_⟩
    rw [numV_long (by omega)]
    exact ⟨A9, _, _, rfl, s9, fr_below f2⟩
/-- Bytes, what is left, and whether there were. -/
def CountR (w : World) (ok : Nat → Prop) (x : List UInt8 × List UInt8 × Bool) (e : Ending) (w' : World) : Prop :=
  ∃ A n c A' n' c', e = .returned (.tuple #[.slice A n c, .slice A' n' c', .bool x.2.2]) ∧ Sl w ok (.slice A n c) x.1 ∧ Sl w ok (.slice A' n' c') x.2.1 ∧ Below w.heap.size w w'
theorem countV_cons (a : UInt8) (r : List UInt8) : countV (a :: r) = if a.toNat ≤ r.length then (r.take a.toNat, r.drop a.toNat, true) else ([], a :: r, false) := rfl
set_option maxHeartbeats 1000000 in
theorem counted_c {w : World} {ok : Nat → Prop} {A : Option Addr} {n c : Nat} {xs : List UInt8} (h : Sl w ok (.slice A n c) xs) (hl : n ≤ 1000000) : Calls Tryd.prog 100 #[.slice A n c] w (CountR w ok (countV xs)) := by
  have hn := h.len
  refine counted_sx _ (fun _ => False) w A n c ⟨fun h0 => ?_, fun h0 => ?_⟩
  · obtain rfl : xs = [] := List.eq_nil_of_length_eq_zero (by omega)
    exact ⟨none, 0, 0, A, n, c, rfl, Sl.nil0 _ _, h, Below.refl _ _⟩
  obtain ⟨a, r, rfl⟩ : ∃ a r, xs = a :: r := by cases xs with | nil => simp at hn; omega | cons a r => exact ⟨a, r, rfl⟩
  rw [List.length_cons] at hn
  have ha := a.toNat_lt
  obtain ⟨p, o, hA, hp, c1⟩ := byte_at h 0 (by simp)
  have hav : IntKind.i64.wrap (((a :: r)[0].toNat : Nat) : Int) = (a.toNat : Int) := i64_byte a
  refine ⟨by omega, by omega, p, o, hA, _, c1, ?_⟩
  rw [hav, wrap_in (by omega)]
  refine ⟨fun hlt => ?_, fun hge => ⟨by omega, by omega, p, o, hA, _, c1, fun w1 f1 b1 => ?_⟩⟩
  · rw [countV_cons, if_neg (by omega)]
    exact ⟨none, 0, 0, A, n, c, rfl, Sl.nil0 _ _, h, Below.refl _ _⟩
  · have hm : IntKind.i64.wrap ((1 : Int) + IntKind.i64.wrap (((a :: r)[0].toNat : Nat) : Int)) = ((1 + a.toNat : Nat) : Int) := by rw [hav, wrap_in (by omega)]; omega
    rw [hm]
    obtain ⟨A1, hr1, s1⟩ := mid_b h (k := 1) (m := 1 + a.toNat) (by omega) (by omega)
    obtain ⟨A2, hr2, s2⟩ := lo_b h (k := 1 + a.toNat) (by omega)
    refine ⟨A1, _, _, fun w' _ => hr1 w', A2, _, _, fun w' _ => hr2 w', ?_⟩
    rw [countV_cons, if_pos (by omega)]
    have e1 : ((a :: r).take (1 + a.toNat)).drop 1 = r.take a.toNat := by rw [Nat.add_comm]; rfl
    have e2 : (a :: r).drop (1 + a.toNat) = r.drop a.toNat := by rw [Nat.add_comm]; rfl
    rw [e1] at s1; rw [e2] at s2
    exact ⟨A1, _, _, A2, _, _, rfl, s1, s2, b1⟩
theorem takeText_c {w : World} {ok : Nat → Prop} {A : Option Addr} {n c : Nat} {xs : List UInt8} (h : Sl w ok (.slice A n c) xs) (hl : n ≤ 1000000) : Calls Tryd.prog 74 #[.slice A n c] w (TakeR w ok encS (textV xs)) := by
  refine takeText_sx _ (fun _ => False) w A n c ?_
  refine (counted_c h hl).mono ?_
  rintro e w1 ⟨A1, n1, c1, A2, n2, c2, rfl, s1, s2, b1⟩
  exact ⟨A1, n1, c1, A2, n2, c2, _, rfl, ok_ret b1 (Fr.refl _ _), _, str_of (s1.below b1), A2, n2, c2, rfl, s2, b1⟩
set_option maxHeartbeats 1000000 in
theorem ref08TakeText_c {w : World} {ok : Nat → Prop} {A : Option Addr} {n c : Nat} {xs : List UInt8} (h : Sl w ok (.slice A n c) xs) (hl : n ≤ 1000000) : Calls Tryd.prog 77 #[.slice A n c] w (TakeR w ok encS (textV xs)) := by
  have hn := h.len
  refine ref08TakeText_sx _ (fun _ => False) w A n c ⟨fun h0 => ?_, fun h0 => ?_⟩
  · obtain rfl : xs = [] := List.eq_nil_of_length_eq_zero (by omega)
    exact ⟨A, n, c, rfl, h, Below.refl _ _⟩
  obtain ⟨a, r, rfl⟩ : ∃ a r, xs = a :: r := by cases xs with | nil => simp at hn; omega | cons a r => exact ⟨a, r, rfl⟩
  rw [List.length_cons] at hn
  have ha := a.toNat_lt
  obtain ⟨p, o, hA, hp, c1⟩ := byte_at h 0 (by simp)
  have hm : IntKind.i64.wrap ((1 : Int) + IntKind.i64.wrap (((a :: r)[0].toNat : Nat) : Int)) = ((1 + a.toNat : Nat) : Int) := by
    have hav : IntKind.i64.wrap (((a :: r)[0].toNat : Nat) : Int) = (a.toNat : Int) := i64_byte a
    rw [hav, wrap_in (by omega)]; omega
  refine ⟨by omega, by omega, p, o, hA, _, c1, ?_⟩
  rw [hm]
  refine ⟨fun hlt => ?_, fun hge => ⟨by omega, by omega, p, o, hA, _, c1, fun w1 f1 b1 => ?_⟩⟩
  · unfold textV; rw [countV_cons, if_neg (by omega)]
    exact ⟨A, n, c, rfl, h, Below.refl _ _⟩
  · rw [hm]
    obtain ⟨A1, hr1, s1⟩ := mid_b h (k := 1) (m := 1 + a.toNat) (by omega) (by omega)
    obtain ⟨A2, hr2, s2⟩ := lo_b h (k := 1 + a.toNat) (by omega)
    refine ⟨A1, _, _, fun w' _ => hr1 w', _, fun w' k => str_of (s1.kept b1 k), A2, _, _, fun w' _ => hr2 w', ?_⟩
    unfold textV; rw [countV_cons, if_pos (by omega)]
    have e1 : ((a :: r).take (1 + a.toNat)).drop 1 = r.take a.toNat := by rw [Nat.add_comm]; rfl
    have e2 : (a :: r).drop (1 + a.toNat) = r.drop a.toNat := by rw [Nat.add_comm]; rfl
    rw [e2] at s2
    rw [e1]
    exact ⟨A2, _, _, rfl, s2, b1⟩
theorem uptoV_cons (m : Nat) (a : UInt8) (r : List UInt8) : uptoV m (a :: r) = if a.toNat ≤ m then ((a.toNat : Int), r, true) else (0, a :: r, false) := rfl
/-- What upto hands back. -/
def uptoF (g : Nat) : Value := .func (.func 70) #[] #[.pointer (some ⟨g, 0, none⟩)]
theorem upto_c (w : World) (m : Int) : Calls Tryd.prog 46 #[.int .u8 m] w fun e w' => ∃ g, w.heap.size ≤ g ∧ e = .returned (uptoF g) ∧ w'.heap[g]? = some (.cells #[.int .u8 m] 5 (0, 0)) ∧ Below w.heap.size w w' :=
  upto_sx _ (fun _ => False) w m fun g hg w1 f1 b1 lo t => ⟨_, rfl, g, hg, rfl, t, b1⟩
theorem load_byte {w : World} {g : Nat} {m : Int} (h : w.heap[g]? = some (.cells #[.int .u8 m] 5 (0, 0))) : (Instr.loadAt 5 (.pointer (some ⟨g, 0, none⟩))).run Tryd.prog w = .ok (.int .u8 m) w := by
  have hc : w.cell? ⟨g, 0, none⟩ = some (.int .u8 m) := by rw [cell_of_row w g 0 _ _ _ h]; rfl
  go_simp
set_option maxHeartbeats 1000000 in
theorem upto1_c {w : World} {ok : Nat → Prop} {A : Option Addr} {n c g m : Nat} {xs : List UInt8} (h : Sl w ok (.slice A n c) xs) (hg : w.heap[g]? = some (.cells #[.int .u8 (m : Int)] 5 (0, 0))) :
    Calls Tryd.prog 70 #[.slice A n c, .pointer (some ⟨g, 0, none⟩)] w (TakeR w ok encI (uptoV m xs)) := by
  have hn := h.len
  refine upto1_sx _ (fun _ => False) w A n c _ ⟨fun h0 w1 f1 b1 => ?_, fun h0 => ?_⟩
  · obtain rfl : xs = [] := List.eq_nil_of_length_eq_zero (by omega)
    exact ⟨A, n, c, rfl, h, b1⟩
  obtain ⟨a, r, rfl⟩ : ∃ a r, xs = a :: r := by cases xs with | nil => simp at hn; omega | cons a r => exact ⟨a, r, rfl⟩
  rw [List.length_cons] at hn
  obtain ⟨p, o, hA, hp, -⟩ := byte_at h 0 (by simp)
  have at_ : ∀ w1, Below w.heap.size w w1 → CellsAt w1 p (o + 0 * 1 + 0) [.int .u8 (((a :: r)[0].toNat : Nat) : Int)] := fun w1 b1 => by
    obtain ⟨p', o', hA', -, c1⟩ := byte_at (h.below b1) 0 (by simp)
    rw [hA] at hA'; injection hA' with e1; injection e1 with e1 e2; subst e1; subst e2
    exact c1
  refine ⟨by omega, by omega, p, o, hA, fun w1 f1 b1 => ⟨_, at_ w1 b1, ⟨hp, by simp⟩, (m : Int), fun w' k => load_byte ((k g (heap_lt hg) (by simp)).trans ((b1.block g (heap_lt hg)).trans hg)), fun hlt => ?_, fun hge => ⟨by omega, by omega, p, o, hA, fun w2 f2 b2 => ?_⟩⟩⟩
  · have hlt : (m : Int) < (a.toNat : Int) := hlt
    rw [uptoV_cons, if_neg (by omega)]
    exact ⟨A, n, c, rfl, h, b1⟩
  · have hge : (a.toNat : Int) ≤ (m : Int) := hge
    obtain ⟨A2, hr2, s2⟩ := lo_b h (k := 1) (by omega)
    refine ⟨_, at_ w2 (fr_below f2), ⟨Nat.lt_of_lt_of_le hp b1.size, by simp⟩, A2, _, _, fun w' _ => hr2 w', ?_⟩
    have hav : IntKind.i64.wrap (((a :: r)[0].toNat : Nat) : Int) = (a.toNat : Int) := i64_byte a
    rw [uptoV_cons, if_pos (by omega), hav]
    exact ⟨A2, _, _, rfl, s2, fr_below f2⟩
end Go.Proofs.YtfjenamomipmdaaDoor
