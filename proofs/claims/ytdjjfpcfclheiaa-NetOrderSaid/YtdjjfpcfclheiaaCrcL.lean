/- The sum of bytes: it is linear, and tells one byte that is turned. (Program-free.) -/
import Derived.Test.YtdjjfpcfclheiaaCrc
set_option linter.unusedSimpArgs false
set_option linter.unusedVariables false
namespace Go.Trc
open Go Go.RowKit Go.Sx

theorem stp_xor (a b : BitVec 32) : stp (a ^^^ b) = stp a ^^^ stp b := by
  unfold stp
  rw [BitVec.ushiftRight_xor_distrib, BitVec.getLsbD_xor]
  have e : ∀ x y p : BitVec 32, x ^^^ p ^^^ (y ^^^ p) = x ^^^ y := fun x y p => by
    rw [BitVec.xor_assoc, ← BitVec.xor_assoc p y p, BitVec.xor_comm p y, BitVec.xor_assoc y p p, BitVec.xor_self, BitVec.xor_zero]
  cases a.getLsbD 0 <;> cases b.getLsbD 0 <;> simp only [bne_self_eq_false, Bool.xor_self, Bool.xor_false, Bool.false_xor, Bool.true_xor, Bool.xor_true, Bool.not_true, Bool.not_false, Bool.false_eq_true, if_false, if_true, BitVec.ofNat_eq_ofNat, BitVec.xor_zero, BitVec.zero_xor]
  · rw [BitVec.xor_assoc]
  · rw [BitVec.xor_assoc, BitVec.xor_assoc, BitVec.xor_comm poly]
  · rw [e]
theorem stpN_xor (n : Nat) (a b : BitVec 32) : stpN n (a ^^^ b) = stpN n a ^^^ stpN n b := by
  induction n generalizing a b with
  | zero => rfl
  | succ n ih => show stpN n (stp (a ^^^ b)) = _; rw [stp_xor, ih]; rfl
theorem byteV_xor (x y : UInt8) : byteV (x ^^^ y) = byteV x ^^^ byteV y := by
  unfold byteV
  rw [UInt8.toNat_xor, BitVec.ofNat_xor]
theorem stb_xor (a b : BitVec 32) (x y : UInt8) : stb (a ^^^ b) (x ^^^ y) = stb a x ^^^ stb b y := by
  unfold stb
  rw [byteV_xor, ← stpN_xor]
  congr 1
  rw [BitVec.xor_assoc, ← BitVec.xor_assoc b, BitVec.xor_comm b, BitVec.xor_assoc, BitVec.xor_assoc]
theorem crc_zip (s t : BitVec 32) : ∀ (xs ys : List UInt8), xs.length = ys.length → crcV (s ^^^ t) (List.zipWith (· ^^^ ·) xs ys) = crcV s xs ^^^ crcV t ys := by
  intro xs
  induction xs generalizing s t with
  | nil => intro ys h; cases ys with | nil => rfl | cons => cases h
  | cons x xs ih =>
    intro ys h
    cases ys with
    | nil => cases h
    | cons y ys =>
      show crcV (stb (s ^^^ t) (x ^^^ y)) (List.zipWith (· ^^^ ·) xs ys) = crcV (stb s x) xs ^^^ crcV (stb t y) ys
      rw [stb_xor]
      exact ih _ _ ys (by simpa using h)
theorem sum_turn (xs ys : List UInt8) (h : xs.length = ys.length) : sumV xs ^^^ sumV (List.zipWith (· ^^^ ·) xs ys) = crcV 0 ys := by
  unfold sumV
  have := crc_zip (BitVec.allOnes 32) 0 xs ys h
  simp only [BitVec.ofNat_eq_ofNat, BitVec.xor_zero] at this ⊢
  rw [this]
  generalize crcV (BitVec.allOnes 32) xs = a
  generalize crcV 0#32 ys = b
  generalize BitVec.allOnes 32 = c
  rw [BitVec.xor_assoc, ← BitVec.xor_assoc c, BitVec.xor_comm c (a ^^^ b), BitVec.xor_assoc (a ^^^ b), BitVec.xor_self, BitVec.xor_zero, ← BitVec.xor_assoc, BitVec.xor_self, BitVec.zero_xor]

theorem stp_zero {s : BitVec 32} (h : stp s = 0) : s = 0 := by
  unfold stp at h
  have h31 : (s >>> 1).getLsbD 31 = false := by rw [BitVec.getLsbD_ushiftRight]; exact BitVec.getLsbD_of_ge _ _ (by omega)
  cases hl : s.getLsbD 0 with
  | true =>
    rw [hl, if_pos rfl] at h
    have := congrArg (fun x : BitVec 32 => x.getLsbD 31) h
    simp only [BitVec.getLsbD_xor, h31] at this
    simp [poly] at this
  | false =>
    rw [hl] at h
    simp only [Bool.false_eq_true, if_false, BitVec.ofNat_eq_ofNat, BitVec.xor_zero] at h
    apply BitVec.eq_of_getLsbD_eq
    intro i hi
    cases i with
    | zero => rw [hl]; rfl
    | succ i =>
      have := congrArg (fun x : BitVec 32 => x.getLsbD i) h
      simp only [BitVec.getLsbD_ushiftRight] at this
      rw [Nat.add_comm i 1, this]
      simp
theorem stpN_zero {n : Nat} {s : BitVec 32} (h : stpN n s = 0) : s = 0 := by
  induction n generalizing s with
  | zero => exact h
  | succ n ih => exact stp_zero (ih h)
theorem stpN_of_zero (n : Nat) : stpN n 0 = 0 := by
  induction n with
  | zero => rfl
  | succ n ih => show stpN n (stp 0) = 0; rw [show stp 0 = 0 by decide]; exact ih
def nz (ys : List UInt8) : Nat := (ys.filter fun b => decide (b ≠ 0)).length
theorem crc_still (s : BitVec 32) : ∀ ys : List UInt8, nz ys = 0 → (crcV s ys = 0 ↔ s = 0) := by
  intro ys
  induction ys generalizing s with
  | nil => intro _; exact Iff.rfl
  | cons y ys ih =>
    intro h
    have hy : y = 0 := by
      apply Classical.byContradiction
      intro hy
      simp [nz, hy] at h
    subst hy
    have h' : nz ys = 0 := by simpa [nz] using h
    show crcV (stb s 0) ys = 0 ↔ s = 0
    rw [ih _ h']
    unfold stb
    rw [show byteV 0 = 0#32 from rfl, BitVec.xor_zero]
    exact ⟨stpN_zero, fun h => by rw [h]; exact stpN_of_zero 8⟩
theorem byteV_ne {y : UInt8} (h : y ≠ 0) : byteV y ≠ 0 := by
  intro h2
  apply h
  have := congrArg BitVec.toNat h2
  unfold byteV at this
  rw [BitVec.toNat_ofNat] at this
  have hy := y.toNat_lt
  apply UInt8.toNat_inj.1
  have : y.toNat % 2 ^ 32 = 0 := this
  rw [Nat.mod_eq_of_lt (by omega)] at this
  exact this
theorem crc_one : ∀ ys : List UInt8, nz ys = 1 → crcV 0 ys ≠ 0 := by
  intro ys
  induction ys with
  | nil => intro h; cases h
  | cons y ys ih =>
    intro h
    by_cases hy : y = 0
    · subst hy
      have h' : nz ys = 1 := by simpa [nz] using h
      show crcV (stb 0 0) ys ≠ 0
      rw [show stb 0 0 = 0 by decide]
      exact ih h'
    · have h' : nz ys = 0 := by simpa [nz, hy] using h
      show crcV (stb 0 y) ys ≠ 0
      rw [Ne, crc_still _ _ h']
      unfold stb
      simp only [BitVec.ofNat_eq_ofNat, BitVec.zero_xor]
      exact fun h => byteV_ne hy (stpN_zero h)
end Go.Trc
