/- Frames: contracts of the sums. -/
import Derived.Test.YtdjjfpcfclheiaaFrX
import Derived.Test.YtdjjfpcfclheiaaCrc
set_option linter.unusedSimpArgs false
set_option linter.unusedVariables false
namespace Go.Proofs.Ytdjjfpcfclheiaa.Frm
open Go Go.RowKit Go.Proofs Go.Trc Go.Sx
set_option maxRecDepth 10000

theorem nat_ofInt {x : Int} (h : 0 ≤ x) : ∃ n : Nat, x = n := ⟨x.toNat, by omega⟩

set_option maxHeartbeats 1000000 in
theorem sum_c {w : World} {ok : Nat → Prop} {A : Option Addr} {n c : Nat} {bs : List UInt8} (h : Sl w ok (.slice A n c) bs) :
    Calls Try.prog 65 #[.slice A n c] w (Ret (.int .u32 ((sumV bs).toNat : Int)) w) := by
  have hn := h.len
  have hle := h.le
  refine sum_sx _ (fun _ => False) w A n c ?_
  refine ⟨fun i3 i4 _ => ∃ k : Nat, k ≤ bs.length ∧ i4 = k ∧ i3 = ((crcV (BitVec.allOnes 32) (bs.take k)).toNat : Int), fun _ i4 _ => bs.length - i4.toNat, ⟨0, by omega, rfl, rfl⟩, ?_⟩
  rintro _ _ w1 f1 ⟨k, hk, rfl, rfl⟩
  have h1 := h.below (fr_below f1)
  refine ⟨fun hlt => ?_, fun hge => ?_⟩
  · have hk' : k < bs.length := by omega
    obtain ⟨b, o, rfl, hok, cs, hcs, hat⟩ := h1.elem k hk'
    refine ⟨by omega, hlt, b, o, rfl, (bs[k].toNat : Int), ?_, ?_⟩
    · have : cs = [.int .u8 (bs[k].toNat : Int)] := hcs
      rw [← this]
      exact hat
    refine ⟨fun i8 i9 _ => ∃ m : Nat, m ≤ 8 ∧ i9 = m ∧ i8 = ((stpN m (crcV (BitVec.allOnes 32) (bs.take k) ^^^ byteV bs[k])).toNat : Int), fun _ i9 _ => 8 - i9.toNat, ⟨0, by omega, rfl, byte_in _ _⟩, ?_⟩
    rintro _ _ w2 f2 ⟨m, hm, rfl, rfl⟩
    refine ⟨fun hlt8 => ?_, fun hge8 => ?_⟩
    · rw [stp_a, ← stpN_succ, wrap_in (by omega)]
      exact ⟨⟨m + 1, by omega, by omega, rfl⟩, by dsimp only; omega⟩
    · obtain rfl : m = 8 := by omega
      rw [wrap_in (by omega)]
      exact ⟨⟨k + 1, by omega, by omega, by rw [crc_take _ _ _ hk']; rfl⟩, by dsimp only; omega⟩
  · obtain rfl : k = bs.length := by omega
    refine ret_leaf f1 ?_
    rw [show (4294967295 : Int) = ((BitVec.allOnes 32).toNat : Int) from rfl, bits_xor, List.take_length]
    unfold sumV
    rw [BitVec.xor_comm]

set_option maxHeartbeats 1000000 in
theorem refSum_c {w : World} {ok : Nat → Prop} {A : Option Addr} {n c : Nat} {bs : List UInt8} (h : Sl w ok (.slice A n c) bs) :
    Calls Try.prog 81 #[.slice A n c] w (Ret (.int .u32 ((sumV bs).toNat : Int)) w) := by
  have hn := h.len
  have hle := h.le
  refine refSum_sx _ (fun _ => False) w A n c ?_
  refine ⟨fun i3 i4 _ => ∃ k : Nat, k ≤ bs.length ∧ i4 = k ∧ i3 = ((crcV (BitVec.allOnes 32) (bs.take k)).toNat : Int), fun _ i4 _ => bs.length - i4.toNat, ⟨0, by omega, rfl, rfl⟩, ?_⟩
  rintro _ _ w1 f1 ⟨k, hk, rfl, rfl⟩
  have h1 := h.below (fr_below f1)
  refine ⟨fun hlt => ?_, fun hge => ?_⟩
  · have hk' : k < bs.length := by omega
    obtain ⟨b, o, rfl, hok, cs, hcs, hat⟩ := h1.elem k hk'
    refine ⟨by omega, hlt, b, o, rfl, (bs[k].toNat : Int), ?_, ?_⟩
    · have : cs = [.int .u8 (bs[k].toNat : Int)] := hcs
      rw [← this]
      exact hat
    refine ⟨fun i8 i9 _ => ∃ m : Nat, m ≤ 8 ∧ i9 = m ∧ i8 = ((stpN m (crcV (BitVec.allOnes 32) (bs.take k) ^^^ byteV bs[k])).toNat : Int), fun _ i9 _ => 8 - i9.toNat, ⟨0, by omega, rfl, byte_in _ _⟩, ?_⟩
    rintro _ _ w2 f2 ⟨m, hm, rfl, rfl⟩
    refine ⟨fun hlt8 => ⟨by decide, by decide, fun hb => ?_, fun hb => ?_⟩, fun hge8 => ?_⟩
    · rw [stp_b1 _ hb, ← stpN_succ, wrap_in (by omega)]
      exact ⟨⟨m + 1, by omega, by omega, rfl⟩, by dsimp only; omega⟩
    · rw [stp_b0 _ hb, ← stpN_succ, wrap_in (by omega)]
      exact ⟨⟨m + 1, by omega, by omega, rfl⟩, by dsimp only; omega⟩
    · obtain rfl : m = 8 := by omega
      rw [wrap_in (by omega)]
      exact ⟨⟨k + 1, by omega, by omega, by rw [crc_take _ _ _ hk']; rfl⟩, by dsimp only; omega⟩
  · obtain rfl : k = bs.length := by omega
    refine ret_leaf f1 ?_
    rw [show (4294967295 : Int) = ((BitVec.allOnes 32).toNat : Int) from rfl, bits_xor, List.take_length]
    rfl
end Go.Proofs.Ytdjjfpcfclheiaa.Frm
