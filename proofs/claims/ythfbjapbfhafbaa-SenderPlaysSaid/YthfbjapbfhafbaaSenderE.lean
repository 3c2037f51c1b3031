/- The head of the sender's statements. -/
import Derived.Test.YthfbjapbfhafbaaSenderD
set_option linter.unusedSimpArgs false
set_option linter.unusedVariables false
namespace Go.Proofs.Ythfbjapbfhafbaa
open Go.RowKit Go.Proofs Go.Trc

/-- What a sender's call leaves of a world in which the sender is at a block of the caller's own. -/
theorem below_sender {B : Nat} {w w1 w2 : World} {b : Nat} (h : Below B w w1) (hb : B ≤ b) (hB : B ≤ w1.heap.size) (hg : w1.grownBy w2 (some b)) : Below B w w2 :=
  h.grown hg hB fun k hk => by injection hk with hk; omega

theorem below_then {B : Nat} {w w1 w2 : World} (h : Below B w w1) (hB : B ≤ w1.heap.size) (k : Below w1.heap.size w1 w2) : Below B w w2 := h.trans (k.mono hB)

set_option maxRecDepth 100000 in
set_option maxHeartbeats 2000000 in
theorem shown_ok (w : World) : Calls Try.prog 7 #[] w fun e w' => e = .returned (.bool true) ∧ Below w.heap.size w w' := by
  have kc := fun (w : World) (C : Array Value) (n c : Nat) => Lib.run_convert_bytes_const (P := Try.prog) w 29 5 C n c Try.underlying29 Try.underlying5
  go_enter Try.func7, Try.ntmps7
  go_wp2_with fail
  refine (new_all 2 _ (by decide) (fun x => x ≠ w.heap.size)).mono ?_
  rintro e w1 ⟨rfl, s1, b1⟩
  have S1 := Lib.hid s1
  have B1 := Lib.hid b1
  clear s1 b1
  go_wp2_with fail
  refine (push_any _ (fun x => x ≠ w.heap.size) (fun _ => True) w.heap.size _ 0 [] _ [97] (S1.out.below ((Below.refl _ _).alloc (Nat.le_refl _) _)) (Sl.single' (x := (97 : UInt8)) (cs := [.int .u8 97]) _ rfl trivial _) (by simp) (fun x hx => by have := S1.out.lt; simp at hx; omega) (by simp) (by omega) (by simp)).mono ?_
  rintro e w2 ⟨rfl, s2, g2⟩
  have B2 : Hid (Below w.heap.size w w2) := below_sender (B1.out.alloc B1.out.size _) (Nat.le_refl _) (Nat.le_trans B1.out.size (by simp)) g2
  have S2 : Hid (SenderAt w2 (fun x => x ≠ w.heap.size) w.heap.size 2 0 [[97]]) := s2
  clear s2 g2
  go_wp2_with fail
  refine (push_any _ (fun x => x ≠ w.heap.size) (fun _ => True) w.heap.size _ 0 [[97]] _ [98] (S2.out.below ((Below.refl _ _).alloc (Nat.le_refl _) _)) (Sl.single' (x := (98 : UInt8)) (cs := [.int .u8 98]) _ rfl trivial _) (by simp) (fun x hx => by have := S2.out.lt; simp at hx; omega) (by simp) (by omega) (by simp)).mono ?_
  rintro e w3 ⟨rfl, s3, g3⟩
  have B3 : Hid (Below w.heap.size w w3) := below_sender (B2.out.alloc B2.out.size _) (Nat.le_refl _) (Nat.le_trans B2.out.size (by simp)) g3
  have S3 : Hid (SenderAt w3 (fun x => x ≠ w.heap.size) w.heap.size 2 0 [[97], [98]]) := s3
  clear s3 g3 S1 S2 B1 B2
  go_wp2_with fail
  refine (push_any _ (fun x => x ≠ w.heap.size) (fun _ => True) w.heap.size _ 0 [[97], [98]] _ [99] (S3.out.below ((Below.refl _ _).alloc (Nat.le_refl _) _)) (Sl.single' (x := (99 : UInt8)) (cs := [.int .u8 99]) _ rfl trivial _) (by simp) (fun x hx => by have := S3.out.lt; simp at hx; omega) (by simp) (by omega) (by simp)).mono ?_
  rintro e w4 ⟨rfl, s4, g4⟩
  have B4 : Hid (Below w.heap.size w w4) := below_sender (B3.out.alloc B3.out.size _) (Nat.le_refl _) (Nat.le_trans B3.out.size (by simp)) g4
  have S4 : Hid (SenderAt w4 (fun x => x ≠ w.heap.size) w.heap.size 2 0 [[97], [98]]) := s4
  clear s4 g4 S3 B3
  go_wp2_with fail
  refine (ack_any _ (fun x => x ≠ w.heap.size) w.heap.size _ 0 1 [[97], [98]] S4.out (by simp) (by simp) (by omega)).mono ?_
  rintro e w5 ⟨rfl, s5, g5⟩
  have B5 : Hid (Below w.heap.size w w5) := below_sender B4.out (Nat.le_refl _) B4.out.size g5
  have S5 : Hid (SenderAt w5 (fun x => x ≠ w.heap.size) w.heap.size 2 1 [[98]]) := s5
  clear s5 g5 S4 B4
  go_wp2_with fail
  refine (due_all _ (fun x => x ≠ w.heap.size) w.heap.size _ 1 [[98]] S5.out (by simp) (by omega)).mono ?_
  rintro e w6 ⟨A6, c6, rfl, s6, b6⟩
  have B6 : Hid (Below w.heap.size w w6) := below_then B5.out B5.out.size b6
  obtain ⟨g, o, rfl, _, hc⟩ := s6.ints (by decide)
  obtain ⟨hc0, _, _⟩ := hc 0 (by decide)
  have hc1 : w6.cell? ⟨g, o, none⟩ = some (.int .i64 2) := hc0
  have p1 : pushN 2 0 [] = 1 := by decide
  have p2 : pushN 2 0 [[97]] = 2 := by decide
  have q1 : pushE 2 [] = 0 := by decide
  have q2 : pushE 2 [[97]] = 0 := by decide
  have q3 : pushE 2 [[97], [98]] = 20 := by decide
  have r1 : ackE 0 [[97], [98]] 1 = 0 := by decide
  have l1 : (dueOf 1 (List.length [[(98 : UInt8)]])).length = 1 := by decide
  clear s6 b6 hc hc0 S5 B5
  go_wp2
  go_ret
  exact ⟨rfl, B6.out⟩
end Go.Proofs.Ythfbjapbfhafbaa
