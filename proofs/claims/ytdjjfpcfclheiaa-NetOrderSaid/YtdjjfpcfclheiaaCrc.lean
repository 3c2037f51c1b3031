/- The sum of bytes, bit by bit. (Program-free.) -/
import Derived.Test.YtdjjfpcfclheiaaCal
set_option linter.unusedSimpArgs false
set_option linter.unusedVariables false
namespace Go.Trc
open Go Go.RowKit Go.Sx

def poly : BitVec 32 := 0xedb88320#32
/-- One bit on. -/
def stp (s : BitVec 32) : BitVec 32 := (s >>> 1) ^^^ (if s.getLsbD 0 then poly else 0)
def stpN : Nat → BitVec 32 → BitVec 32
  | 0, s => s
  | n + 1, s => stpN n (stp s)
theorem stpN_succ (n : Nat) (s : BitVec 32) : stpN (n + 1) s = stp (stpN n s) := by
  induction n generalizing s with
  | zero => rfl
  | succ n ih => exact ih (stp s)
def byteV (b : UInt8) : BitVec 32 := BitVec.ofNat 32 b.toNat
/-- One byte on. -/
def stb (s : BitVec 32) (b : UInt8) : BitVec 32 := stpN 8 (s ^^^ byteV b)
def crcV (s : BitVec 32) (bs : List UInt8) : BitVec 32 := bs.foldl stb s
def sumV (bs : List UInt8) : BitVec 32 := crcV (BitVec.allOnes 32) bs ^^^ BitVec.allOnes 32

theorem u32_wrap (x : BitVec 32) : IntKind.u32.wrap (x.toNat : Int) = (x.toNat : Int) := by
  have := x.isLt
  simp only [IntKind.wrap, IntKind.bits, IntKind.signed]
  have h : ((x.toNat : Int) % 2 ^ 32) = (x.toNat : Int) := Int.emod_eq_of_lt (by omega) (by omega)
  simp
  omega
theorem ofInt_nat (x : BitVec 32) : BitVec.ofInt 32 (x.toNat : Int) = x := by
  rw [BitVec.ofInt_natCast]; simp
theorem bits_xor (x y : BitVec 32) : bits .xor .u32 (x.toNat : Int) (y.toNat : Int) = ((x ^^^ y).toNat : Int) := by
  show IntKind.u32.wrap ((BitVec.ofInt 32 (x.toNat : Int) ^^^ BitVec.ofInt 32 (y.toNat : Int)).toNat : Int) = _
  rw [ofInt_nat, ofInt_nat, u32_wrap]
theorem bits_and (x y : BitVec 32) : bits .and .u32 (x.toNat : Int) (y.toNat : Int) = ((x &&& y).toNat : Int) := by
  show IntKind.u32.wrap ((BitVec.ofInt 32 (x.toNat : Int) &&& BitVec.ofInt 32 (y.toNat : Int)).toNat : Int) = _
  rw [ofInt_nat, ofInt_nat, u32_wrap]
theorem lsb_one (s : BitVec 32) : (s &&& 1#32).toNat = if s.getLsbD 0 then 1 else 0 := by
  rw [BitVec.toNat_and]
  show s.toNat &&& 1 = _
  rw [Nat.and_one_is_mod]
  have : s.getLsbD 0 = decide (s.toNat % 2 = 1) := by
    rw [BitVec.getLsbD]; simp [Nat.testBit, Nat.and_one_is_mod]; rfl
  rw [this]
  simp only [decide_eq_true_eq]
  split <;> omega
theorem stp_a (s : BitVec 32) : bits .xor .u32 (Int.fdiv (s.toNat : Int) (2 ^ 1)) (IntKind.u32.wrap ((bits .and .u32 (s.toNat : Int) (1 : Int)) * (3988292384 : Int))) = ((stp s).toNat : Int) := by
  have h1 : Int.fdiv (s.toNat : Int) (2 ^ 1) = ((s >>> 1).toNat : Int) := by
    rw [BitVec.toNat_ushiftRight, Nat.shiftRight_eq_div_pow, Int.fdiv_eq_ediv_of_nonneg _ (by decide)]
    norm_cast
  have h2 : bits .and .u32 (s.toNat : Int) (1 : Int) = ((s &&& 1#32).toNat : Int) := bits_and s 1#32
  have h3 : IntKind.u32.wrap ((bits .and .u32 (s.toNat : Int) (1 : Int)) * (3988292384 : Int)) = (((if s.getLsbD 0 then poly else 0) : BitVec 32).toNat : Int) := by
    rw [h2, lsb_one]
    cases s.getLsbD 0 <;> decide
  rw [h1, h3, bits_xor]
  rfl
theorem half (s : BitVec 32) : IntKind.u32.wrap (Int.tdiv (s.toNat : Int) (2 : Int)) = ((s >>> 1).toNat : Int) := by
  have h1 : Int.tdiv (s.toNat : Int) 2 = ((s >>> 1).toNat : Int) := by
    rw [BitVec.toNat_ushiftRight, Nat.shiftRight_eq_div_pow, Int.tdiv_eq_ediv_of_nonneg (by omega)]
    norm_cast
  rw [h1, u32_wrap]
theorem low (s : BitVec 32) : (Int.tmod (s.toNat : Int) (2 : Int) = 1) ↔ s.getLsbD 0 = true := by
  have : s.getLsbD 0 = decide (s.toNat % 2 = 1) := by
    rw [BitVec.getLsbD]; simp [Nat.testBit, Nat.and_one_is_mod]; rfl
  rw [this, Int.tmod_eq_emod_of_nonneg (by omega)]
  simp only [decide_eq_true_eq]
  omega
theorem stp_b1 (s : BitVec 32) (h : Int.tmod (s.toNat : Int) (2 : Int) = 1) : bits .xor .u32 (IntKind.u32.wrap (Int.tdiv (s.toNat : Int) (2 : Int))) (3988292384 : Int) = ((stp s).toNat : Int) := by
  rw [low] at h
  rw [half, show (3988292384 : Int) = (poly.toNat : Int) from rfl, bits_xor]
  unfold stp
  rw [if_pos h]
theorem stp_b0 (s : BitVec 32) (h : ¬ Int.tmod (s.toNat : Int) (2 : Int) = 1) : IntKind.u32.wrap (Int.tdiv (s.toNat : Int) (2 : Int)) = ((stp s).toNat : Int) := by
  rw [low] at h
  rw [half]
  unfold stp
  rw [if_neg h]
  simp
theorem byte_in (s : BitVec 32) (b : UInt8) : bits .xor .u32 (s.toNat : Int) (IntKind.u32.wrap (b.toNat : Int)) = ((s ^^^ byteV b).toNat : Int) := by
  have h : ((byteV b).toNat : Int) = (b.toNat : Int) := by
    have := b.toNat_lt
    unfold byteV
    rw [BitVec.toNat_ofNat]
    omega
  rw [← h, u32_wrap, bits_xor]
theorem crc_take (s : BitVec 32) (bs : List UInt8) (k : Nat) (hk : k < bs.length) : crcV s (bs.take (k + 1)) = stb (crcV s (bs.take k)) bs[k] := by
  unfold crcV
  rw [List.take_succ_eq_append_getElem hk, List.foldl_append]
  rfl
end Go.Trc
