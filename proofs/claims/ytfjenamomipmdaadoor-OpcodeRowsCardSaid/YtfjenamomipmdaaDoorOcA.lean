/- Opcode: contracts of what lays names, texts and numbers down. -/
import Derived.Test.YtfjenamomipmdaaDoorOpN
import Derived.Test.YtfjenamomipmdaaDoorOcX
set_option linter.unusedSimpArgs false
set_option linter.unusedVariables false
namespace Go.Proofs.YtfjenamomipmdaaDoor
open Go Go.RowKit Go.Proofs Go.Trc Go.Sx
def u8 (y : Int) : UInt8 := UInt8.ofNat (y % 256).toNat
theorem u8_wrap (y : Int) : IntKind.u8.wrap y = ((u8 y).toNat : Int) := by
  have h0 := Int.emod_nonneg y (by decide : (256 : Int) ≠ 0)
  have h1 := Int.emod_lt_of_pos y (by decide : (0 : Int) < 256)
  have e1 : IntKind.u8.wrap y = y % 256 := by simp [IntKind.wrap, IntKind.bits, IntKind.signed]
  have e2 : (u8 y).toNat = (y % 256).toNat := by
    unfold u8
    rw [UInt8.toNat_ofNat']
    omega
  rw [e1, e2]; omega
theorem u8_mod (x : Int) : u8 x = u8 (x % 256) := by unfold u8; rw [Int.emod_emod_of_dvd _ (Int.dvd_refl _)]
/-- The four bytes of a name. -/
def idB (s n : Int) : List UInt8 := [u8 s, u8 (n / 65536), u8 (n / 256), u8 n]
abbrev TB : TypeId := 5
theorem infoB1 : (Tryd.prog.info? 5).map (fun i => (i.zero, i.size, i.bytes)) = some (some (.int .u8 0), 1, 1) := by kernel_rfl
theorem nonneg_fdiv {n m : Int} (h : 0 ≤ n) (hm : 0 ≤ m) : n.fdiv m = n / m := by rw [Int.fdiv_eq_ediv_of_nonneg _ hm]
theorem idB_cells (s n : Int) (hn : 0 ≤ n ∧ n ≤ 9223372036854775807) : (idB s n).flatMap Fixed.cells = [.int .u8 (IntKind.u8.wrap s), .int .u8 (IntKind.u8.wrap (Int.fdiv n (2 ^ 16))), .int .u8 (IntKind.u8.wrap (Int.fdiv n (2 ^ 8))), .int .u8 (IntKind.u8.wrap n)] := by
  rw [nonneg_fdiv hn.1 (by decide), nonneg_fdiv hn.1 (by decide), u8_wrap, u8_wrap, u8_wrap, u8_wrap]
  rfl
theorem idB_cells' (s n : Int) (hn : 0 ≤ n ∧ n ≤ 9223372036854775807) : (idB s n).flatMap Fixed.cells = [.int .u8 (IntKind.u8.wrap s), .int .u8 (IntKind.u8.wrap (IntKind.i64.wrap (Int.tdiv n (65536 : Int)))), .int .u8 (IntKind.u8.wrap (Int.tmod (IntKind.i64.wrap (Int.tdiv n (256 : Int))) (256 : Int))), .int .u8 (IntKind.u8.wrap (Int.tmod n (256 : Int)))] := by
  have d1 : Int.tdiv n 65536 = n / 65536 := Int.tdiv_eq_ediv_of_nonneg hn.1
  have d2 : Int.tdiv n 256 = n / 256 := Int.tdiv_eq_ediv_of_nonneg hn.1
  rw [d1, d2, wrap_in (x := n / 65536) (by omega), wrap_in (x := n / 256) (by omega)]
  have m1 : Int.tmod (n / 256) 256 = n / 256 % 256 := Int.tmod_eq_emod_of_nonneg (by omega)
  have m2 : Int.tmod n 256 = n % 256 := Int.tmod_eq_emod_of_nonneg hn.1
  rw [m1, m2, u8_wrap, u8_wrap, u8_wrap, u8_wrap, ← u8_mod, ← u8_mod]
  rfl
/-- Bytes laid at once, as an append reads them. -/
theorem arg_b {w : World} {g : Nat} (xs : List UInt8) (n : Nat) (hn : n = xs.length) (cs : List Value) (hcs : xs.flatMap Fixed.cells = cs) (hg : w.heap[g]? = some (.cells cs.toArray 5 (0, 0))) (hm : n ≤ 100000) : Arg w (fun _ => True) (.slice (some ⟨g, 0, none⟩) n n) xs := by
  subst hcs
  exact arg_cells xs n hn hg (by unfold maxLen; omega) (fun _ _ => trivial)
set_option maxHeartbeats 1000000 in
theorem ref01Put_c {w : World} {ok : Nat → Prop} {A : Option Addr} {n c : Nat} {xs : List UInt8} (h : Sl w ok (.slice A n c) xs) (hl : n ≤ 100000) (s m : Int) (hm : 0 ≤ m ∧ m ≤ 9223372036854775807) :
    Calls Tryd.prog 40 #[.slice A n c, .agg #[.int .i64 s, .int .i64 m]] w (RetRow w 5 (xs ++ idB s m)) := by
  have hn := h.len
  refine ref01Put_sx _ (fun b => some b = none) w A n c s m ?_
  intro g5 hg5 g6 hg6 w1 f1 b1 lo6 t6 lo5 t5
  have r1 : Rw none w w.heap.size 5 w1 (.slice (some ⟨g6, 0, none⟩) 0 0) ([] : List UInt8) [g6, g5] := Rw.first (fr_none f1) hg6 t6 (by simp; exact ⟨heap_lt t6, heap_lt t5⟩)
  obtain ⟨w2, A2, n2, c2, hr2, m2, r2⟩ := r1.append 22 22 (.int .u8 0) 1 Tryd.underlying22 infoB1 rfl (h.below b1).arg (by simp; omega) (by simp; omega)
  refine ⟨w2, A2, n2, c2, hr2, m2, by decide, by decide, by decide, by decide, ?_⟩
  intro g10 hg10 w3 f3 b3 lo10 t10
  have r3 := r2.on b3 [g10] (by simp only [List.mem_singleton]; rintro _ rfl; exact ⟨lo10, heap_lt t10⟩)
  have l4 : (idB s m).length = 4 := rfl
  obtain ⟨w4, A4, n4, c4, hr4, m4, r4⟩ := r3.append 22 22 (.int .u8 0) 1 Tryd.underlying22 infoB1 rfl (arg_b (idB s m) 4 rfl _ (idB_cells' s m hm) t10 (by omega)) (by simp; omega) (by simp; omega)
  exact ⟨w4, A4, n4, c4, hr4, m4, r4.ret rfl⟩
end Go.Proofs.YtfjenamomipmdaaDoor
