/- Script: both lines are the same. -/
import Derived.Test.YtfjenamomipmdaaDoorScM
import Derived.Test.YtfjenamomipmdaaDoorScO
set_option linter.unusedSimpArgs false
set_option linter.unusedVariables false
namespace Go.Proofs.YtfjenamomipmdaaDoor
open Go Go.RowKit Go.Proofs Go.Trc Go.Sx
set_option maxRecDepth 100000 in
theorem dx_hex (c : UInt8) : (0 ≤ dx c ↔ dg (hexV c) = c) ∧ (0 ≤ dx c → dx c = ((hexV c : Nat) : Int)) := by
  have key : ∀ a : Fin 256, (0 ≤ dx (UInt8.ofNat a.val) ↔ dg (hexV (UInt8.ofNat a.val)) = UInt8.ofNat a.val) ∧ (0 ≤ dx (UInt8.ofNat a.val) → dx (UInt8.ofNat a.val) = ((hexV (UInt8.ofNat a.val) : Nat) : Int)) := by decide +kernel
  have := key ⟨c.toNat, c.toNat_lt⟩
  simpa only [UInt8.ofNat_toNat] using this
theorem pair_nat (a b : UInt8) : (pairB a b).toNat = 16 * hexV a + hexV b := by
  have ha := hexV_lt a
  have hb := hexV_lt b
  have h := pair_wrap a b
  have e : IntKind.u8.wrap (IntKind.u8.wrap ((16 : Int) * ((hexV a : Nat) : Int)) + ((hexV b : Nat) : Int)) = 16 * ((hexV a : Nat) : Int) + ((hexV b : Nat) : Int) := by
    simp only [IntKind.wrap, IntKind.bits, IntKind.signed]; simp; omega
  omega
theorem hex_iff : ∀ xs : List UInt8, xs.length % 2 = 0 → (hexB (unhex xs) = xs ↔ ∀ c ∈ xs, 0 ≤ dx c)
  | [], _ => by simp [unhex, hexB]
  | [_], h => by simp at h
  | a :: b :: r, h => by
    have ih := hex_iff r (by simp at h; omega)
    have hb := hexV_lt b
    have e : hexB (unhex (a :: b :: r)) = dg (hexV a) :: dg (hexV b) :: hexB (unhex r) := by
      show dg ((pairB a b).toNat / 16) :: dg ((pairB a b).toNat % 16) :: hexB (unhex r) = _
      rw [pair_nat, show (16 * hexV a + hexV b) / 16 = hexV a by omega, show (16 * hexV a + hexV b) % 16 = hexV b by omega]
    rw [e]
    simp only [List.cons.injEq, List.mem_cons, forall_eq_or_imp, ih, (dx_hex a).1, (dx_hex b).1]
theorem good_iff (xs : List UInt8) (m : Nat) (hm : xs.length = 2 * m) : goodD xs m (List.finRange m) ↔ ∀ c ∈ xs, 0 ≤ dx c := by
  constructor
  · intro h c hc
    obtain ⟨j, hj, rfl⟩ := List.mem_iff_getElem.1 hc
    have hx := h ⟨j / 2, by omega⟩ (List.mem_finRange _)
    unfold hiD loD at hx
    rcases Nat.mod_two_eq_zero_or_one j with h0 | h0
    · have := hx.1
      have e : 2 * (j / 2) = j := by omega
      simp only [e, List.getElem?_eq_getElem hj, Option.getD_some] at this
      exact this
    · have := hx.2
      have e : 2 * (j / 2) + 1 = j := by omega
      simp only [e, List.getElem?_eq_getElem hj, Option.getD_some] at this
      exact this
  · intro h x _
    have hx := x.isLt
    have k0 : 2 * x.val < xs.length := by omega
    have k1 : 2 * x.val + 1 < xs.length := by omega
    unfold hiD loD
    rw [List.getElem?_eq_getElem k0, List.getElem?_eq_getElem k1]
    exact ⟨h _ (List.getElem_mem k0), h _ (List.getElem_mem k1)⟩
theorem dec_take (xs : List UInt8) (m : Nat) (hm : xs.length = 2 * m) (hg : ∀ c ∈ xs, 0 ≤ dx c) : ∀ k, k ≤ m → decD xs m ((List.finRange m).take k) = unhex (xs.take (2 * k))
  | 0, _ => rfl
  | k + 1, h => by
    have k0 : 2 * k < xs.length := by omega
    have k1 : 2 * k + 1 < xs.length := by omega
    rw [fin_take m k (by omega), unhex_next k xs k0 k1, ← dec_take xs m hm hg k (by omega)]
    simp only [decD, List.map_append, List.map_cons, List.map_nil]
    congr 2
    unfold hiD loD pairB
    rw [List.getElem?_eq_getElem k0, List.getElem?_eq_getElem k1]
    simp only [Option.getD_some]
    rw [(dx_hex _).2 (hg _ (List.getElem_mem k0)), (dx_hex _).2 (hg _ (List.getElem_mem k1)), Int.mul_comm]
theorem line_same (xs : List UInt8) : refLineV xs = lineV xs := by
  unfold refLineV lineV
  by_cases h : xs.length % 2 = 0
  · have hm : xs.length = 2 * (xs.length / 2) := by omega
    rw [if_pos h, lineE]
    by_cases hg : ∀ c ∈ xs, 0 ≤ dx c
    · rw [if_pos ((hex_iff xs h).2 hg), if_pos ((good_iff xs _ hm).2 hg)]
      have e := dec_take xs _ hm hg (xs.length / 2) (Nat.le_refl _)
      rw [List.take_of_length_le (by simp), ← hm, List.take_length] at e
      rw [e]
    · rw [if_neg (fun e => hg ((hex_iff xs h).1 e)), if_neg (fun e => hg ((good_iff xs _ hm).1 e))]
  · rw [if_neg h, if_neg]
    intro e
    have := congrArg List.length e
    rw [hexB_len] at this
    omega
end Go.Proofs.YtfjenamomipmdaaDoor
