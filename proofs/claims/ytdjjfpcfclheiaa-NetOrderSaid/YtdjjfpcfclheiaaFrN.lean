/- Frames: bytes that are a frame, of which up to four side by side are turned, are none (no program here). -/
import Derived.Test.YtdjjfpcfclheiaaFrP
import Derived.Test.YtdjjfpcfclheiaaCrcL
set_option linter.unusedSimpArgs false
set_option linter.unusedVariables false
namespace Go.Proofs.Ytdjjfpcfclheiaa.Frm
open Go Go.RowKit Go.Proofs Go.Trc Go.Sx
set_option maxRecDepth 10000

theorem crc_app (s : BitVec 32) (xs ys : List UInt8) : crcV s (xs ++ ys) = crcV (crcV s xs) ys := by unfold crcV; rw [List.foldl_append]
/-- Bits that are none are shifted out. -/
theorem stpN_low : ∀ (n : Nat) (s : BitVec 32), (∀ i, i < n → s.getLsbD i = false) → stpN n s = s >>> n
  | 0, s, _ => by simp [stpN]
  | n + 1, s, h => by
    have h0 := h 0 (by omega)
    have e : stp s = s >>> 1 := by unfold stp; rw [h0]; simp
    show stpN n (stp s) = _
    rw [e, stpN_low n (s >>> 1) (fun i hi => by rw [BitVec.getLsbD_ushiftRight]; exact h (1 + i) (by omega)), ← BitVec.shiftRight_add, Nat.add_comm]
def lowB (r : BitVec 32) : UInt8 := u8 (r.toNat : Int)
theorem lowB_nat (r : BitVec 32) : (lowB r).toNat = r.toNat % 256 := by
  unfold lowB u8
  rw [UInt8.toNat_ofNat']
  omega
theorem byteV_low (r : BitVec 32) (i : Nat) : (byteV (lowB r)).getLsbD i = (decide (i < 8) && r.getLsbD i) := by
  unfold byteV
  rw [BitVec.getLsbD_ofNat, lowB_nat, show 256 = 2 ^ 8 from rfl, Nat.testBit_mod_two_pow]
  by_cases h : i < 8
  · simp [h, BitVec.getLsbD]; omega
  · simp [h]
theorem stb_low (r : BitVec 32) : stb r (lowB r) = r >>> 8 := by
  unfold stb
  rw [stpN_low 8 _ (fun i hi => by rw [BitVec.getLsbD_xor, byteV_low, decide_eq_true hi]; simp)]
  apply BitVec.eq_of_getLsbD_eq
  intro i hi
  rw [BitVec.getLsbD_ushiftRight, BitVec.getLsbD_ushiftRight, BitVec.getLsbD_xor, byteV_low, decide_eq_false (by omega)]
  simp
/-- A sum's own bytes behind it leave nothing. -/
def leB (r : BitVec 32) : List UInt8 := (fourV (r.toNat : Int)).reverse
theorem leB_eq (r : BitVec 32) : leB r = [lowB r, lowB (r >>> 8), lowB (r >>> 16), lowB (r >>> 24)] := by
  have e : ∀ k : Nat, u8 (Int.fdiv (r.toNat : Int) (2 ^ k)) = lowB (r >>> k) := fun k => by
    unfold lowB
    rw [BitVec.toNat_ushiftRight, Nat.shiftRight_eq_div_pow, fdiv_nn (by omega)]
    norm_cast
  have e0 : lowB (r >>> 0) = lowB r := by simp
  simp only [leB, fourV, List.reverse_cons, List.reverse_nil, List.nil_append, List.cons_append, e, e0]
theorem crc_own (r : BitVec 32) : crcV r (leB r) = 0 := by
  rw [leB_eq]
  show stb (stb (stb (stb r _) _) _) _ = 0
  rw [stb_low, stb_low, ← BitVec.shiftRight_add, stb_low, ← BitVec.shiftRight_add, stb_low, ← BitVec.shiftRight_add]
  apply BitVec.eq_of_getLsbD_eq
  intro i hi
  rw [BitVec.getLsbD_ushiftRight]
  simp
/-- What is left of any frame. -/
def left_ : BitVec 32 := crcV (BitVec.allOnes 32) [0, 0, 0, 0]
theorem crc_sealed (h : List UInt8) : crcV (BitVec.allOnes 32) (h ++ leB (sumV h)) = left_ := by
  rw [crc_app]
  generalize hr : sumV h = r
  have hc : crcV (BitVec.allOnes 32) h = r ^^^ BitVec.allOnes 32 := by
    unfold sumV at hr
    rw [← hr, BitVec.xor_assoc, BitVec.xor_self]
    simp
  rw [hc]
  have hz : leB r = List.zipWith (· ^^^ ·) (leB r) [0, 0, 0, 0] := by rw [leB_eq]; simp
  rw [hz, crc_zip _ _ _ _ (by rw [leB_eq]; rfl), crc_own]
  unfold left_
  simp
theorem taken_left {bs : List UInt8} (h : takeOk bs = true) : crcV (BitVec.allOnes 32) bs = left_ := by
  unfold takeOk at h
  simp only [Bool.and_eq_true, decide_eq_true_eq] at h
  rw [← h.2]
  exact crc_sealed _
theorem xor_zero_eq {a b : BitVec 32} (h : a ^^^ b = 0) : a = b := by
  have : a ^^^ b ^^^ b = b := by rw [h]; simp
  rwa [BitVec.xor_assoc, BitVec.xor_self, BitVec.xor_zero] at this
theorem stpN_inj {n : Nat} {a b : BitVec 32} (h : stpN n a = stpN n b) : a = b := by
  apply xor_zero_eq
  apply stpN_zero (n := n)
  rw [stpN_xor, h, BitVec.xor_self]
  rfl
theorem stb_inj {a b : BitVec 32} {x : UInt8} (h : stb a x = stb b x) : a = b := by
  have := stpN_inj h
  have h2 : a ^^^ byteV x ^^^ byteV x = b ^^^ byteV x ^^^ byteV x := by rw [this]
  rwa [BitVec.xor_assoc, BitVec.xor_self, BitVec.xor_assoc, BitVec.xor_self, BitVec.xor_zero, BitVec.xor_zero] at h2
theorem crc_inj {a b : BitVec 32} : ∀ {xs : List UInt8}, crcV a xs = crcV b xs → a = b
  | [], h => h
  | x :: xs, h => stb_inj (crc_inj (xs := xs) h)
/-- A number of up to four bytes, laid into a state from its low end. -/
def leN : List UInt8 → BitVec 32
  | [] => 0
  | b :: l => byteV b ^^^ (leN l <<< 8)
theorem leN_bits : ∀ (l : List UInt8) (k : Nat), 8 * l.length ≤ k → (leN l).getLsbD k = false
  | [], k, _ => by simp [leN]
  | b :: l, k, h => by
    rw [List.length_cons] at h
    have hb : (byteV b).getLsbD k = false := by
      unfold byteV
      rw [BitVec.getLsbD_ofNat, Nat.testBit_lt_two_pow (Nat.lt_of_lt_of_le b.toNat_lt (Nat.pow_le_pow_right (by decide) (by omega : 8 ≤ k)))]
      simp
    rw [leN, BitVec.getLsbD_xor, hb, BitVec.getLsbD_shiftLeft]
    rw [leN_bits l (k - 8) (by omega)]
    simp
/-- What up to four bytes come to, is nothing only where they are. -/
theorem crc_back : ∀ (l : List UInt8) (s : BitVec 32), l.length ≤ 4 → crcV s l = 0 → s = leN l
  | [], s, _, h => h
  | b :: l, s, hl, h => by
    rw [List.length_cons] at hl
    have h1 := crc_back l (stb s b) (by omega) h
    have h2 : leN l = stpN 8 (leN l <<< 8) := by
      rw [stpN_low 8 _ (fun i hi => by rw [BitVec.getLsbD_shiftLeft, decide_eq_true hi]; simp)]
      apply BitVec.eq_of_getLsbD_eq
      intro i hi
      rw [BitVec.getLsbD_ushiftRight, BitVec.getLsbD_shiftLeft]
      by_cases h8 : 8 + i < 32
      · simp [h8]
      · rw [leN_bits l i (by omega)]; simp [h8]
    unfold stb at h1
    rw [h2] at h1
    have h3 := stpN_inj h1
    rw [leN, ← h3, BitVec.xor_comm s, ← BitVec.xor_assoc, BitVec.xor_self, BitVec.zero_xor]
theorem leN_zero : ∀ (l : List UInt8), l.length ≤ 4 → leN l = 0 → nz l = 0
  | [], _, _ => rfl
  | b :: l, hl, h => by
    rw [List.length_cons] at hl
    have hb : b = 0 := by
      apply Classical.byContradiction
      intro hb
      apply byteV_ne hb
      apply BitVec.eq_of_getLsbD_eq
      intro i hi
      have h1 := congrArg (fun x : BitVec 32 => x.getLsbD i) h
      simp only [leN, BitVec.getLsbD_xor, BitVec.getLsbD_shiftLeft] at h1
      by_cases h8 : i < 8
      · simpa [h8] using h1
      · unfold byteV
        rw [BitVec.getLsbD_ofNat, Nat.testBit_lt_two_pow (Nat.lt_of_lt_of_le b.toNat_lt (Nat.pow_le_pow_right (by decide) (by omega : 8 ≤ i)))]
        simp
    subst hb
    have h0 : leN l = 0 := by
      apply BitVec.eq_of_getLsbD_eq
      intro i hi
      have h1 := congrArg (fun x : BitVec 32 => x.getLsbD (i + 8)) h
      simp only [leN, BitVec.getLsbD_xor, BitVec.getLsbD_shiftLeft, show byteV 0 = 0#32 from rfl] at h1
      by_cases h8 : i + 8 < 32
      · simpa [h8] using h1
      · rw [leN_bits l i (by omega)]; simp
    have := leN_zero l (by omega) h0
    simpa [nz] using this
theorem burst {pre mid post es : List UInt8} (hl : mid.length = es.length) (h4 : es.length ≤ 4) (h1 : takeOk (pre ++ mid ++ post) = true) (h2 : takeOk (pre ++ List.zipWith (· ^^^ ·) mid es ++ post) = true) : nz es = 0 := by
  have a := taken_left h1
  have b := taken_left h2
  rw [crc_app, crc_app] at a b
  have h := crc_inj (a.trans b.symm)
  have hz := crc_zip (crcV (BitVec.allOnes 32) pre) 0 mid es hl
  simp only [BitVec.ofNat_eq_ofNat, BitVec.xor_zero] at hz
  rw [hz] at h
  have h0 : crcV 0#32 es = 0 := by
    have h5 : crcV (crcV (BitVec.allOnes 32) pre) mid ^^^ crcV (crcV (BitVec.allOnes 32) pre) mid = crcV (crcV (BitVec.allOnes 32) pre) mid ^^^ (crcV (crcV (BitVec.allOnes 32) pre) mid ^^^ crcV 0#32 es) := by rw [← h]
    rw [BitVec.xor_self, ← BitVec.xor_assoc, BitVec.xor_self, BitVec.zero_xor] at h5
    exact h5.symm
  exact leN_zero es h4 (crc_back es 0#32 h4 h0).symm
end Go.Proofs.Ytdjjfpcfclheiaa.Frm
