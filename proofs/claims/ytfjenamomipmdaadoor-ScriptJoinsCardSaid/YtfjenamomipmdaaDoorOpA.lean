/- Contracts of package ident and of the small functions of package op. -/
import Derived.Test.YtfjenamomipmdaaDoorRows
import Derived.Test.YtfjenamomipmdaaDoorBase
import Derived.Test.YtfjenamomipmdaaDoorStruct
set_option linter.unusedSimpArgs false
set_option linter.unusedVariables false
namespace Go.Proofs.YtfjenamomipmdaaDoor
open Go.RowKit Go.Proofs Go.Trc

def idOk (s n : Int) : Bool := decide (1 ≤ s) && decide (s ≤ 8) && decide (1 ≤ n) && decide (n ≤ 1048576)
def dartOk (s n k : Int) : Bool := idOk s n && decide (k = 0 ∨ k = 1)
def cornerOk (s n t m k : Int) : Bool := idOk s n && (decide (t = 0 ∧ m = 0 ∧ k = 0) || dartOk t m k)
def attrOk (n : Int) : Bool := decide (-1099511627776 ≤ n) && decide (n ≤ 1099511627776)
def labelOk (s : ByteArray) : Bool := decide (∀ i (h : i < s.size), 32 ≤ s[i].toNat ∧ s[i].toNat ≤ 126) && decide (s.size ≤ 16)

theorem below_iter (w : World) (s : ByteArray) (p : Nat) : Below w.heap.size w (w.iter s p) := (Below.refl _ _).alloc (Nat.le_refl _) _
theorem below_alloc (w : World) (o : Obj) : Below w.heap.size w (w.alloc o) := (Below.refl _ _).alloc (Nat.le_refl _) _

set_option maxHeartbeats 1000000 in
theorem may_id (w : World) (s n : Int) : Calls Tryd.prog 106 #[.agg #[.int .i64 s, .int .i64 n]] w fun e w' => e = .returned (.bool (idOk s n)) ∧ Below w.heap.size w w' := by
  by_cases h1 : 1 ≤ s
  · by_cases h2 : s ≤ 8
    · by_cases h3 : 1 ≤ n
      · by_cases h4 : n ≤ 1048576
        · have e : idOk s n = true := by simp [idOk, *]
          rw [e]
          go_enter Tryd.func106, Tryd.ntmps106
          go_wp2_with fail
          go_ret
          exact ⟨rfl, below_alloc _ _⟩
        · have e : idOk s n = false := by simp [idOk, *]
          rw [e]
          go_enter Tryd.func106, Tryd.ntmps106
          go_wp2_with fail
          go_ret
          exact ⟨rfl, below_alloc _ _⟩
      · have e : idOk s n = false := by simp [idOk, *]
        rw [e]
        go_enter Tryd.func106, Tryd.ntmps106
        go_wp2_with fail
        go_ret
        exact ⟨rfl, below_alloc _ _⟩
    · have e : idOk s n = false := by simp [idOk, *]
      rw [e]
      go_enter Tryd.func106, Tryd.ntmps106
      go_wp2_with fail
      go_ret
      exact ⟨rfl, below_alloc _ _⟩
  · have e : idOk s n = false := by simp [idOk, *]
    rw [e]
    go_enter Tryd.func106, Tryd.ntmps106
    go_wp2_with fail
    go_ret
    exact ⟨rfl, below_alloc _ _⟩

theorem may_attr (w : World) (n : Int) : Calls Tryd.prog 109 #[.int .i64 n] w fun e w' => e = .returned (.bool (attrOk n)) ∧ w' = w := by
  by_cases h1 : -1099511627776 ≤ n
  · by_cases h2 : n ≤ 1099511627776
    · have e : attrOk n = true := by simp [attrOk, *]
      rw [e]
      go_enter Tryd.func109, Tryd.ntmps109
      go_wp2_with fail
      go_ret
      exact ⟨rfl, rfl⟩
    · have e : attrOk n = false := by simp [attrOk, *]
      rw [e]
      go_enter Tryd.func109, Tryd.ntmps109
      go_wp2_with fail
      go_ret
      exact ⟨rfl, rfl⟩
  · have e : attrOk n = false := by simp [attrOk]; omega
    rw [e]
    go_enter Tryd.func109, Tryd.ntmps109
    go_wp2_with fail
    go_ret
    exact ⟨rfl, rfl⟩

theorem and_not_zero (a b : BitVec 64) : a &&& ~~~b = 0#64 ↔ a &&& b = a := by
  constructor
  · intro h
    ext i hi
    have h' : (a &&& ~~~b)[i] = (0#64)[i] := by rw [h]
    simp only [BitVec.getElem_and, BitVec.getElem_not, BitVec.getElem_zero] at h' ⊢
    generalize a[i] = x at *
    generalize b[i] = y at *
    revert h'
    cases x <;> cases y <;> decide
  · intro h
    ext i hi
    have h' : (a &&& b)[i] = a[i] := by rw [h]
    simp only [BitVec.getElem_and, BitVec.getElem_not, BitVec.getElem_zero] at h' ⊢
    generalize a[i] = x at *
    generalize b[i] = y at *
    revert h'
    cases x <;> cases y <;> decide

/-- 'k &^ m', m a row of ones, is nothing just at 0 to m. -/
theorem andNot_low (k : Int) (j : Nat) (hj : j ≤ 62) (h : -9223372036854775808 ≤ k ∧ k ≤ 9223372036854775807) : (bits .andNot .i64 k ((2 ^ j - 1 : Nat) : Int) = 0) ↔ (0 ≤ k ∧ k < ((2 ^ j : Nat) : Int)) := by
  have hp : 2 ^ j ≤ 2 ^ 62 := Nat.pow_le_pow_right (by decide) hj
  have hp0 : 0 < 2 ^ j := Nat.two_pow_pos j
  show IntKind.i64.wrap ((BitVec.ofInt 64 k &&& ~~~(BitVec.ofInt 64 ((2 ^ j - 1 : Nat) : Int))).toNat : Int) = 0 ↔ _
  have hb : (BitVec.ofInt 64 ((2 ^ j - 1 : Nat) : Int)).toNat = 2 ^ j - 1 := by
    rw [BitVec.toNat_ofInt]
    omega
  have ha : (BitVec.ofInt 64 k).toNat = (k % 18446744073709551616).toNat := by rw [BitVec.toNat_ofInt]; rfl
  generalize BitVec.ofInt 64 k = a at *
  generalize BitVec.ofInt 64 ((2 ^ j - 1 : Nat) : Int) = b at *
  have h0 : IntKind.i64.wrap ((a &&& ~~~b).toNat : Int) = 0 ↔ a &&& ~~~b = 0#64 := by
    have hlt := (a &&& ~~~b).isLt
    generalize a &&& ~~~b = c at *
    have hc : c = 0#64 ↔ c.toNat = 0 := ⟨fun h => by rw [h]; rfl, fun h => BitVec.eq_of_toNat_eq (by rw [h]; rfl)⟩
    rw [hc]
    simp [IntKind.wrap, IntKind.signed, IntKind.bits]
    omega
  rw [h0, and_not_zero]
  have h1 : a &&& b = a ↔ a.toNat % 2 ^ j = a.toNat := by
    rw [← Nat.and_two_pow_sub_one_eq_mod, ← hb, ← BitVec.toNat_and]
    exact ⟨fun h => by rw [h], fun h => BitVec.eq_of_toNat_eq h⟩
  rw [h1, ha, Nat.mod_eq_iff_lt (by omega)]
  omega

/-- 'k &^ 1' is nothing just at 0 and 1. -/
theorem andNot1 (k : Int) (h : -9223372036854775808 ≤ k ∧ k ≤ 9223372036854775807) : (bits .andNot .i64 k 1 = 0) ↔ (k = 0 ∨ k = 1) := by
  have := andNot_low k 1 (by decide) h
  rw [show ((2 ^ 1 - 1 : Nat) : Int) = 1 from rfl, show ((2 ^ 1 : Nat) : Int) = 2 from rfl] at this
  rw [this]
  omega

set_option maxHeartbeats 1000000 in
theorem may_dart (w : World) (s n k : Int) (hk : -9223372036854775808 ≤ k ∧ k ≤ 9223372036854775807) : Calls Tryd.prog 116 #[.agg #[.int .i64 s, .int .i64 n, .int .i64 k]] w fun e w' => e = .returned (.bool (dartOk s n k)) ∧ Below w.heap.size w w' := by
  have hn := andNot1 k hk
  go_enter Tryd.func116, Tryd.ntmps116
  go_wp2_with fail
  refine (may_id _ s n).mono ?_
  rintro e w1 ⟨rfl, b1⟩
  have BD : Hid (Below w.heap.size w w1) := (below_alloc _ _).trans (b1.mono (by simp))
  have q0 := (b1.cell (p := ⟨w.heap.size, 2, none⟩) (by simp)).trans (cell_of_row _ w.heap.size 2 _ _ _ (heap_alloc_new w (.cells #[.int .i64 s, .int .i64 n, .int .i64 k] 35)))
  clear b1
  by_cases h1 : idOk s n = true
  · rw [h1]
    go_wp2_with fail
    go_ret
    have e : dartOk s n k = (bits BinOp.andNot IntKind.i64 k 1 == 0) := by
      unfold dartOk
      rw [h1, Bool.true_and, Bool.eq_iff_iff, beq_iff_eq, hn, decide_eq_true_eq]
    rw [e]
    exact ⟨rfl, BD.out⟩
  · have h2 : idOk s n = false := by simpa using h1
    rw [h2]
    go_wp2_with fail
    go_ret
    exact ⟨by simp [dartOk, h2], BD.out⟩

theorem may_label (w : World) (s : ByteArray) : Calls Tryd.prog 108 #[.string s] w fun e w' => e = .returned (.bool (labelOk s)) ∧ Below w.heap.size w w' := by
  go_enter Tryd.func108, Tryd.ntmps108
  go_wp2_with fail
  go_loopw [2] (fun n w' => ∃ (pos : Nat), w' = w.iter s pos ∧ n = .bool false ∧ pos ≤ s.size ∧ ∀ i (h : i < s.size), i < pos → 32 ≤ s[i].toNat ∧ s[i].toNat ≤ 126) (fun _ w' => s.size - w'.iterPos w.heap.size)
  case atStart => exact ⟨0, rfl, rfl, by omega, fun i _ h => absurd h (by omega)⟩
  case round =>
    obtain ⟨pos, rfl, rfl, hps, hall⟩ := hrel
    have HALL := Lib.hid hall
    clear hall
    by_cases hp : pos < s.size
    · have hnx : ∀ ty, (Instr.next (.pointer (some ⟨w.heap.size, 0, none⟩)) true ty).run Tryd.prog (w.iter s pos) = _ := fun ty => run_next_any w s pos ty hp
      by_cases ha : (s[pos]'hp).toNat < 128
      · rw [decode_ascii s pos hp ha] at hnx
        simp only at hnx
        by_cases h1 : 32 ≤ s[pos].toNat ∧ s[pos].toNat ≤ 126
        · have h2 : ¬ (s[pos].toNat : Int) < 32 := by omega
          have h3 : ¬ 126 < (s[pos].toNat : Int) := by omega
          have HALL2 : Hid (∀ i (h : i < s.size), i < pos + 1 → 32 ≤ s[i].toNat ∧ s[i].toNat ≤ 126) := by
            intro i h hi
            by_cases hip : i = pos
            · subst hip; exact h1
            · exact HALL.out i h (by omega)
          clear HALL ha h1
          go_wp2_with fail
          go_roundw
          case rel => exact ⟨pos + 1, rfl, rfl, hp, HALL2.out⟩
          case measure => simp; omega
        · have E : Hid (labelOk s = false) := by
            show labelOk s = false
            unfold labelOk
            rw [Bool.and_eq_false_iff]
            exact .inl (decide_eq_false fun h => h1 (h pos hp))
          by_cases h2 : (s[pos].toNat : Int) < 32
          · clear h1
            go_wp2_with fail
            go_ret
            rw [E.out]
            exact ⟨rfl, below_iter _ _ _⟩
          · have h3 : 126 < (s[pos].toNat : Int) := by omega
            clear h1
            go_wp2_with fail
            go_ret
            rw [E.out]
            exact ⟨rfl, below_iter _ _ _⟩
      · have hd := decode_high s pos hp (by omega)
        generalize Utf8.decode s pos = d at *
        have h2 : ¬ (d.1 : Int) < 32 := by omega
        have h3 : 126 < (d.1 : Int) := by omega
        have E : Hid (labelOk s = false) := by
            show labelOk s = false
            unfold labelOk
            rw [Bool.and_eq_false_iff]
            exact .inl (decide_eq_false fun h => by have := h pos hp; omega)
        go_wp2_with fail
        go_ret
        rw [E.out]
        exact ⟨rfl, below_iter _ _ _⟩
    · have hnx : ∀ ty, (Instr.next (.pointer (some ⟨w.heap.size, 0, none⟩)) true ty).run Tryd.prog (w.iter s pos) = _ := fun ty => run_next_end w s pos ty hp
      have E : Hid (labelOk s = decide ((s.size : Int) ≤ 16)) := by
        show labelOk s = decide ((s.size : Int) ≤ 16)
        unfold labelOk
        rw [decide_eq_true (fun i h => HALL.out i h (by omega)), Bool.true_and]
        exact decide_eq_decide.2 (by omega)
      go_wp2_with fail
      go_ret
      rw [E.out]
      exact ⟨rfl, below_iter _ _ _⟩

set_option maxHeartbeats 1000000 in
theorem may_corner (w : World) (s n t m k : Int) (hk : -9223372036854775808 ≤ k ∧ k ≤ 9223372036854775807) : Calls Tryd.prog 107 #[.agg #[.int .i64 s, .int .i64 n, .int .i64 t, .int .i64 m, .int .i64 k]] w fun e w' => e = .returned (.bool (cornerOk s n t m k)) ∧ Below w.heap.size w w' := by
  go_enter Tryd.func107, Tryd.ntmps107
  go_wp2_with fail
  refine (may_id _ s n).mono ?_
  rintro e w1 ⟨rfl, b1⟩
  have BD : Hid (Below w.heap.size w w1) := (below_alloc _ _).trans (b1.mono (by simp))
  have hb := heap_alloc_new w (.cells #[.int .i64 s, .int .i64 n, .int .i64 t, .int .i64 m, .int .i64 k] 37)
  have q2 : w1.cell? ⟨w.heap.size, 2, none⟩ = some (.int .i64 t) := (b1.cell (p := ⟨w.heap.size, 2, none⟩) (by simp)).trans (cell_of_row _ w.heap.size 2 _ _ _ hb)
  have q3 : w1.cell? ⟨w.heap.size, 3, none⟩ = some (.int .i64 m) := (b1.cell (p := ⟨w.heap.size, 3, none⟩) (by simp)).trans (cell_of_row _ w.heap.size 3 _ _ _ hb)
  have q4 : w1.cell? ⟨w.heap.size, 4, none⟩ = some (.int .i64 k) := (b1.cell (p := ⟨w.heap.size, 4, none⟩) (by simp)).trans (cell_of_row _ w.heap.size 4 _ _ _ hb)
  clear b1 hb
  by_cases h1 : idOk s n = true
  · rw [h1]
    by_cases hz : t = 0 ∧ m = 0 ∧ k = 0
    · obtain ⟨rfl, rfl, rfl⟩ := hz
      have E : Hid (cornerOk s n 0 0 0 = true) := by
        show cornerOk s n 0 0 0 = true
        simp [cornerOk, h1]
      clear h1
      go_wp2_with fail
      go_ret
      rw [E.out]
      exact ⟨rfl, BD.out⟩
    · have E : Hid (cornerOk s n t m k = dartOk t m k) := by
        show cornerOk s n t m k = dartOk t m k
        unfold cornerOk
        rw [h1, decide_eq_false hz, Bool.true_and, Bool.false_or]
      clear h1
      go_wp2_with fail
      all_goals
        subst_vars
        refine (may_dart _ _ _ k hk).mono ?_
        rintro e w2 ⟨rfl, b2⟩
        have BE : Hid (Below w.heap.size w w2) := BD.out.trans (b2.mono BD.out.size)
        clear b2
        go_wp2_with fail
        go_ret
        rw [E.out]
        exact ⟨rfl, BE.out⟩
  · have h2 : idOk s n = false := by simpa using h1
    rw [h2]
    go_wp2_with fail
    go_ret
    have e : cornerOk s n t m k = false := by simp [cornerOk, h2]
    rw [e]
    exact ⟨rfl, BD.out⟩
end Go.Proofs.YtfjenamomipmdaaDoor

