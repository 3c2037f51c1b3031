/- Script: bytes as text, two digits each: written and digits. -/
import Derived.Test.YtfjenamomipmdaaDoorPkW
import Derived.Test.YtfjenamomipmdaaDoorPkS
import Derived.Test.YtfjenamomipmdaaDoorPkE
import Derived.Test.YtfjenamomipmdaaDoorShB
import Derived.Test.YtfjenamomipmdaaDoorSpX
import Derived.Test.YtfjenamomipmdaaDoorPkN
set_option linter.unusedSimpArgs false
set_option linter.unusedVariables false
namespace Go.Proofs.YtfjenamomipmdaaDoor
open Go Go.RowKit Go.Proofs Go.Trc Go.Sx
def dg (n : Nat) : UInt8 := (([48, 49, 50, 51, 52, 53, 54, 55, 56, 57, 97, 98, 99, 100, 101, 102] : List UInt8)[n]?).getD 0
def hexB (xs : List UInt8) : List UInt8 := xs.flatMap fun x => [dg (x.toNat / 16), dg (x.toNat % 16)]
theorem hexB_len : ∀ xs : List UInt8, (hexB xs).length = 2 * xs.length
  | [] => rfl
  | x :: xs => by show (_ :: _ :: hexB xs).length = _; rw [List.length_cons, List.length_cons, hexB_len xs, List.length_cons]; omega
theorem hex_take (xs : List UInt8) (k : Nat) (h : k < xs.length) : hexB (xs.take (k + 1)) = hexB (xs.take k) ++ [dg (xs[k].toNat / 16), dg (xs[k].toNat % 16)] := by
  unfold hexB; rw [List.take_add_one, List.getElem?_eq_getElem h, List.flatMap_append]; simp
theorem hex_at {w : World} (n : Nat) (h : n < 16) (k : IntKind) : (Instr.index 9 (.string (⟨#[48, 49, 50, 51, 52, 53, 54, 55, 56, 57, 97, 98, 99, 100, 101, 102]⟩ : ByteArray)) (.int k (n : Int))).run Tryd.prog w = .ok (.int .u8 ((dg n).toNat : Int)) w := by
  rw [run_index_str (P := Tryd.prog) 9 Tryd.underlying9 (⟨#[48, 49, 50, 51, 52, 53, 54, 55, 56, 57, 97, 98, 99, 100, 101, 102]⟩ : ByteArray) n h k]
  have key : ∀ m : Fin 16, (⟨#[48, 49, 50, 51, 52, 53, 54, 55, 56, 57, 97, 98, 99, 100, 101, 102]⟩ : ByteArray)[m.val]'m.isLt = dg m.val := by decide
  rw [key ⟨n, h⟩]
set_option maxRecDepth 100000 in
theorem and15 (x : UInt8) : bits .and .u8 (x.toNat : Int) (15 : Int) = ((x.toNat % 16 : Nat) : Int) := by
  have key : ∀ m : Fin 256, bits .and .u8 (m.val : Int) (15 : Int) = ((m.val % 16 : Nat) : Int) := by decide
  exact key ⟨x.toNat, x.toNat_lt⟩
theorem shr4 (x : UInt8) : Int.fdiv (x.toNat : Int) (2 ^ 4) = ((x.toNat / 16 : Nat) : Int) := by
  rw [Int.fdiv_eq_ediv_of_nonneg _ (by decide)]; omega
/-- Block b is a builder that holds xs; its row is not older. -/
def Bd (b : Nat) (xs : List UInt8) (w : World) : Prop := Lib.IsBuilderF 104 5 b b (bcs xs) w
structure Bt (b : Nat) (xs : List UInt8) (w w' : World) : Prop where
  wr : Bd b xs w'
  low : Below b w w'
  oth : Lib.OthersKept 5 (some b) w w'
theorem Bd.lt {b : Nat} {xs : List UInt8} {w : World} (h : Bd b xs w) : b < w.heap.size := by
  rcases h with h | h
  · exact Lib.BuilderAtF.lt h
  · exact Lib.BuilderAtF.lt h
theorem bdAt_below {b : Nat} {p : Value} {bs : List Value} {w w' : World} (h : Lib.BuilderAtF 104 5 b b p bs w) (k : Below w.heap.size w w') : Lib.BuilderAtF 104 5 b b p bs w' := by
  have hl := Lib.BuilderAtF.lt h
  obtain ⟨h1, v, h2, h3, h4⟩ := h
  exact ⟨h1, v, (k.block b hl).trans h2, World.ownsRowF.kept (row := none) h3 ⟨k.os, k.tape, k.output, k.size, fun j hj _ => k.block j hj⟩ (by cases hv : v.ownBlock with | none => exact .inl rfl | some g => exact .inr (by simp)), h4⟩
theorem Bd.below {b : Nat} {xs : List UInt8} {w w' : World} (h : Bd b xs w) (k : Below w.heap.size w w') : Bd b xs w' := by
  rcases h with h | h
  · exact .inl (bdAt_below h k)
  · exact .inr (bdAt_below h k)
theorem Bt.trans {b : Nat} {xs ys : List UInt8} {w w1 w2 : World} (h : Bt b xs w w1) (k : Bt b ys w1 w2) : Bt b ys w w2 := ⟨k.wr, h.low.trans k.low, h.oth.trans k.oth⟩
theorem Bt.step {b : Nat} {xs : List UInt8} {w w1 w2 : World} (h : Bt b xs w w1) (k : Below w1.heap.size w1 w2) : Bt b xs w w2 :=
  ⟨h.wr.below k, h.low.trans (k.mono (Nat.le_of_lt h.wr.lt)), h.oth.below k⟩
theorem Bt.start {b : Nat} {xs : List UInt8} {w : World} (h : Bd b xs w) : Bt b xs w w := ⟨h, Below.refl _ _, Lib.OthersKept.refl _ _ _⟩
theorem Bt.fr {b : Nat} {xs : List UInt8} {w0 w w' : World} (h : Bt b xs w w') (hb : w0.heap.size ≤ b) (f : Fr (fun _ => False) w0 w) : Fr (fun _ => False) w0 w' :=
  ⟨h.low.os.trans f.os, h.low.tape.trans f.tape, h.low.output.trans f.output, Nat.le_trans f.size h.low.size, fun k hk hn => (h.low.block k (by omega)).trans (f.block k hk hn)⟩
theorem Bt.mild {b : Nat} {xs : List UInt8} {w w' : World} (h : Bt b xs w w') {G : List Nat} (hG : Nbs b w G) : Mild G w w' := by
  refine ⟨h.low.size, fun g hg _ => ?_⟩
  obtain ⟨h1, c, t, fz, h2, h3⟩ := hG g hg
  rw [h2]
  exact h.oth g _ h2 (fun hh => h1 (by injection hh)) fun c' fz' hc => h3 (by injection hc)
/-- Its cells. -/
theorem Bd.cells {b : Nat} {xs : List UInt8} {w : World} (h : Bd b xs w) : ∃ (p : Value) (A : Option Addr) (n c : Nat), w.heap[b]? = some (.cells #[p, .slice A n c] 104 (0, 0)) ∧ p.oneCell' = true := by
  have key : ∀ p, Lib.BuilderAtF 104 5 b b p (bcs xs) w → ∃ (A : Option Addr) (n c : Nat), w.heap[b]? = some (.cells #[p, .slice A n c] 104 (0, 0)) := by
    rintro p ⟨_, v, h2, h3, _⟩
    rcases h3.2 with ⟨rfl, _⟩ | ⟨g, cap, cur, fz, rfl, _⟩
    · exact ⟨_, _, _, h2⟩
    · exact ⟨_, _, _, h2⟩
  rcases h with h | h
  · obtain ⟨A, n, c, h⟩ := key _ h; exact ⟨_, A, n, c, h, rfl⟩
  · obtain ⟨A, n, c, h⟩ := key _ h; exact ⟨_, A, n, c, h, rfl⟩
theorem Bd.new {b : Nat} {w : World} (h : w.heap[b]? = some (.cells #[.pointer none, .slice none 0 0] 104 (0, 0))) : Bd b [] w :=
  .inl ⟨Nat.le_refl _, _, h, World.ownsRowF_nil _ _ _ _, by simp [Value.ownBlock]⟩
theorem bWriteByte_c {b : Nat} {xs : List UInt8} {w : World} (h : Bd b xs w) (x : UInt8) (hl : xs.length ≤ 10000000) :
    Calls Tryd.prog 79 #[.pointer (some ⟨b, 0, none⟩), .int .u8 (x.toNat : Int)] w fun e w' => e = .returned .nilIface ∧ Bt b (xs ++ [x]) w w' := by
  refine (Any.Builder_WriteByte_k Tryd.laysB167 Tryd.laysBX b b (bcs xs) (x.toNat : Int) w h (by rw [bcs_len]; omega) (Nat.le_of_lt h.lt)).mono ?_
  rintro e w' ⟨rfl, h1, h2, h3⟩
  refine ⟨rfl, .inr ?_, h2, h3⟩
  rw [show bcs (xs ++ [x]) = bcs xs ++ [.int .u8 (x.toNat : Int)] by rw [bcs, List.flatMap_append]; rfl]
  exact h1
theorem bWriteString_c {b : Nat} {xs : List UInt8} {w : World} (h : Bd b xs w) (ys : List UInt8) (hl : xs.length ≤ 10000000) (hy : ys.length ≤ 10000000) :
    Calls Tryd.prog 54 #[.pointer (some ⟨b, 0, none⟩), .string ⟨ys.toArray⟩] w fun e w' => e = .returned (.tuple #[.int .i64 (ys.length : Int), .nilIface]) ∧ Bt b (xs ++ ys) w w' := by
  have hs : (⟨ys.toArray⟩ : ByteArray).size = ys.length := by show ys.toArray.size = _; simp
  refine (Any.Builder_WriteString_k Tryd.laysB166 Tryd.laysBX b b (bcs xs) ⟨ys.toArray⟩ w h (by rw [bcs_len, hs]; omega) (Nat.le_of_lt h.lt)).mono ?_
  rintro e w' ⟨rfl, h1, h2, h3⟩
  rw [hs]
  refine ⟨rfl, .inr ?_, h2, h3⟩
  have e : Lib.strCells ⟨ys.toArray⟩ = bcs ys := by rw [bcs, flat_bytes]; rfl
  rw [show bcs (xs ++ ys) = bcs xs ++ Lib.strCells ⟨ys.toArray⟩ by rw [e, bcs, List.flatMap_append]]
  exact h1
theorem bString_c {b : Nat} {xs : List UInt8} {w : World} (h : Bd b xs w) :
    Calls Tryd.prog 56 #[.pointer (some ⟨b, 0, none⟩)] w fun e w' => e = .returned (.string ⟨xs.toArray⟩) ∧ Bt b xs w w' := by
  have e : bcs xs = Lib.byteCells xs := by rw [bcs, flat_bytes]; rfl
  have h' := h
  unfold Bd at h'
  rw [e] at h'
  refine (Any.Builder_String_any_k Tryd.laysB169 Tryd.laysBX b b xs w h' (Nat.le_of_lt h.lt)).mono ?_
  rintro e' w' ⟨rfl, h1, h2, h3⟩
  refine ⟨rfl, ?_, h2, h3⟩
  unfold Bd
  rw [e]
  exact h1
end Go.Proofs.YtfjenamomipmdaaDoor


/- Script: written, digits. -/
set_option linter.unusedSimpArgs false
set_option linter.unusedVariables false
namespace Go.Proofs.YtfjenamomipmdaaDoor
open Go Go.RowKit Go.Proofs Go.Trc Go.Sx
theorem written_c {w : World} {ok : Nat → Prop} {A : Option Addr} {n c : Nat} {xs : List UInt8} (h : Sl w ok (.slice A n c) xs) (hl : n ≤ 1000000) :
    Calls Tryd.prog 55 #[.slice A n c] w (Ret (.string ⟨(hexB xs).toArray⟩) w) := by
  have hn := h.len
  refine written_sx _ (fun _ => False) w A n c ?_
  intro g3 hg3
  refine ⟨fun i _ _ _ _ w' => ∃ k : Nat, i = (k : Int) ∧ k ≤ xs.length ∧ Bd g3 (hexB (xs.take k)) w', fun i _ _ _ _ _ => (n - i : Int).toNat, ?_, ?_⟩
  · intro w1 f1 b1 lo3 t3
    exact ⟨0, rfl, Nat.zero_le _, Bd.new t3⟩
  · rintro _ v5 A6 n7 n8 w2 f2 ⟨k, rfl, hk, r⟩ t3
    refine ⟨fun hlt => ?_, fun hge _ => ?_⟩
    · have hlt' : k < xs.length := by omega
      obtain ⟨p, o, rfl, _, hc⟩ := byte_at (h.below (fr_below f2)) k hlt'
      have hx := xs[k].toNat_lt
      refine ⟨by omega, hlt, p, o, rfl, _, hc, ?_⟩
      rw [shr4, and15]
      refine ⟨_, hex_at _ (by omega) _, fun _ => ?_⟩
      refine (bWriteByte_c r _ (by rw [hexB_len, List.length_take]; omega)).mono ?_
      rintro e w3 ⟨rfl, r3⟩
      obtain ⟨v14, A15, n16, n17, t4, o14⟩ := r3.wr.cells
      refine ⟨_, v14, A15, n16, n17, rfl, ⟨r3.fr hg3 f2, r3.mild (Nbs.nil _ _)⟩, t4, o14, ?_⟩
      refine ⟨_, hex_at _ (by omega) _, fun _ => ?_⟩
      refine (bWriteByte_c r3.wr _ (by rw [one_len, hexB_len, List.length_take]; omega)).mono ?_
      rintro e w4 ⟨rfl, r4⟩
      obtain ⟨v20, A21, n22, n23, t5, o20⟩ := r4.wr.cells
      refine ⟨_, v20, A21, n22, n23, rfl, ⟨r4.fr hg3 (r3.fr hg3 f2), r4.mild (Nbs.nil _ _)⟩, t5, o20, ⟨k + 1, by rw [wrap_in (by omega)]; rfl, hlt', ?_⟩, by dsimp only; rw [wrap_in (by omega)]; omega⟩
      rw [hex_take xs k hlt']
      have := r4.wr
      rw [List.append_assoc] at this
      exact this
    · refine (bString_c r).mono ?_
      rintro e w3 ⟨rfl, r3⟩
      obtain ⟨v10, A11, n12, n13, t4, o10⟩ := r3.wr.cells
      refine ⟨_, v10, A11, n12, n13, rfl, ⟨r3.fr hg3 f2, r3.mild (Nbs.nil _ _)⟩, t4, o10, ?_⟩
      exact ret_leaf (r3.fr hg3 f2) (by rw [List.take_of_length_le (by omega)])
end Go.Proofs.YtfjenamomipmdaaDoor


/- Script: Put and Print, of both. -/
set_option linter.unusedSimpArgs false
set_option linter.unusedVariables false
namespace Go.Proofs.YtfjenamomipmdaaDoor
open Go Go.RowKit Go.Proofs Go.Trc Go.Sx
abbrev StepV := Int × Int × Int × Int × List OpV
/-- A step's first bytes. -/
def headB (k s n a : Int) : List UInt8 := numB k ++ numB s ++ numB n ++ numB a
theorem headB_len (k s n a : Int) : (headB k s n a).length = 32 := rfl
def putS (x : StepV) : List UInt8 × Int := if x.2.2.2.2 = [] then (headB x.1 x.2.1 x.2.2.1 x.2.2.2.1, 0) else putV (headB x.1 x.2.1 x.2.2.1 x.2.2.2.1) x.2.2.2.2
set_option maxHeartbeats 1000000 in
theorem scPut_c {w : World} {ok : Nat → Prop} (x : StepV) {A : Option Addr} {n c : Nat} (h : Sl w ok (.slice A n c) x.2.2.2.2) :
    Calls Tryd.prog 28 #[.agg #[.int .i64 x.1, .int .i64 x.2.1, .int .i64 x.2.2.1, .int .i64 x.2.2.2.1, .slice A n c]] w (RetB w (putS x)) := by
  have hn := h.len
  refine scPut_sx _ (fun _ => False) w _ _ _ _ A n c ?_
  intro g7 hg7 g8 hg8 w1 f1 b1 lo8 t8 lo7 t7
  refine (packNum_c (Sl.nil0 w1 (fun _ => True)) (by omega) x.1).mono ?_
  rintro e w2 ⟨A9, n10, n11, rfl, o2, b2⟩
  refine ⟨A9, n10, n11, rfl, ok_ret b2 f1, ?_⟩
  have f2 := f1.step b2
  have l2 := o2.sl.len
  refine (packNum_c o2.sl (by rw [l2]; show 8 ≤ 90000; decide) x.2.1).mono ?_
  rintro e w3 ⟨A12, n13, n14, rfl, o3, b3⟩
  refine ⟨A12, n13, n14, rfl, ok_ret b3 f2, ?_⟩
  have f3 := f2.step b3
  have l3 := o3.sl.len
  refine (packNum_c o3.sl (by rw [l3]; show 16 ≤ 90000; decide) x.2.2.1).mono ?_
  rintro e w4 ⟨A15, n16, n17, rfl, o4, b4⟩
  refine ⟨A15, n16, n17, rfl, ok_ret b4 f3, ?_⟩
  have f4 := f3.step b4
  have l4 := o4.sl.len
  refine (packNum_c o4.sl (by rw [l4]; show 24 ≤ 90000; decide) x.2.2.2.1).mono ?_
  rintro e w5 ⟨A18, n19, n20, rfl, o5, b5⟩
  refine ⟨A18, n19, n20, rfl, ok_ret b5 f4, ?_⟩
  have f5 := f4.step b5
  have l5 := o5.sl.len
  have e5 : [] ++ numB x.1 ++ numB x.2.1 ++ numB x.2.2.1 ++ numB x.2.2.2.1 = headB x.1 x.2.1 x.2.2.1 x.2.2.2.1 := rfl
  rw [e5] at o5 l5
  refine ⟨fun h0 => ?_, fun h0 => ?_⟩
  · have e0 : x.2.2.2.2 = [] := List.length_eq_zero_iff.1 (by omega)
    refine ⟨A18, n19, n20, by rw [putS, if_pos e0], ?_, fr_below f5⟩
    rw [putS, if_pos e0]
    exact o5.base' fun k hk => Nat.le_trans f4.size (Own.lt o5 k hk).1
  · have e0 : ¬ x.2.2.2.2 = [] := fun hh => h0 (by rw [hn, hh]; rfl)
    refine (opcodePut_c o5.sl (by rw [l5, headB_len]; decide) (h.below (fr_below f5))).mono ?_
    rintro e w6 ⟨A21, n22, n23, rfl, o6, b6⟩
    refine ⟨A21, n22, n23, _, rfl, ok_ret b6 f5, ?_⟩
    refine ⟨A21, n22, n23, by rw [putS, if_neg e0], ?_, fr_below (f5.step b6)⟩
    rw [putS, if_neg e0]
    exact o6.base' fun k hk => Nat.le_trans f5.size (Own.lt o6 k hk).1
set_option maxHeartbeats 1000000 in
theorem refScPut_c {w : World} {ok : Nat → Prop} (x : StepV) {A : Option Addr} {n c : Nat} (h : Sl w ok (.slice A n c) x.2.2.2.2) :
    Calls Tryd.prog 29 #[.agg #[.int .i64 x.1, .int .i64 x.2.1, .int .i64 x.2.2.1, .int .i64 x.2.2.2.1, .slice A n c]] w (RetB w (putS x)) := by
  have hn := h.len
  refine refScPut_sx _ (fun _ => False) w _ _ _ _ A n c ?_
  intro g7 hg7 w1 f1 b1 lo7 t7 w1' f1' b1'
  refine (ref08Num_c (Sl.nil0 w1' (fun _ => True)) (by omega) x.1).mono ?_
  rintro e w2 ⟨A9, n10, n11, rfl, o2, b2⟩
  refine ⟨A9, n10, n11, rfl, ok_ret b2 f1', keep_below b2 b1'.size, ?_⟩
  have f2 := f1'.step b2
  have l2 := o2.sl.len
  refine (ref08Num_c o2.sl (by rw [l2]; show 8 ≤ 90000; decide) x.2.1).mono ?_
  rintro e w3 ⟨A12, n13, n14, rfl, o3, b3⟩
  refine ⟨A12, n13, n14, rfl, ok_ret b3 f2, keep_below b3 (Nat.le_trans b1'.size b2.size), ?_⟩
  have f3 := f2.step b3
  have l3 := o3.sl.len
  refine (ref08Num_c o3.sl (by rw [l3]; show 16 ≤ 90000; decide) x.2.2.1).mono ?_
  rintro e w4 ⟨A15, n16, n17, rfl, o4, b4⟩
  refine ⟨A15, n16, n17, rfl, ok_ret b4 f3, keep_below b4 (Nat.le_trans (Nat.le_trans b1'.size b2.size) b3.size), ?_⟩
  have f4 := f3.step b4
  have l4 := o4.sl.len
  refine (ref08Num_c o4.sl (by rw [l4]; show 24 ≤ 90000; decide) x.2.2.2.1).mono ?_
  rintro e w5 ⟨A18, n19, n20, rfl, o5, b5⟩
  refine ⟨A18, n19, n20, rfl, ok_ret b5 f4, ?_⟩
  have f5 := f4.step b5
  have l5 := o5.sl.len
  have e5 : [] ++ numB x.1 ++ numB x.2.1 ++ numB x.2.2.1 ++ numB x.2.2.2.1 = headB x.1 x.2.1 x.2.2.1 x.2.2.2.1 := rfl
  rw [e5] at o5 l5
  refine ⟨fun h0 => ?_, fun h0 => ?_⟩
  · have e0 : x.2.2.2.2 = [] := List.length_eq_zero_iff.1 (by omega)
    refine ⟨A18, n19, n20, by rw [putS, if_pos e0], ?_, fr_below f5⟩
    rw [putS, if_pos e0]
    exact o5.base' fun k hk => Nat.le_trans f4.size (Own.lt o5 k hk).1
  · have e0 : ¬ x.2.2.2.2 = [] := fun hh => h0 (by rw [hn, hh]; rfl)
    refine (ref10Put_c o5.sl (by rw [l5, headB_len]; decide) (h.below (fr_below f5))).mono ?_
    rintro e w6 ⟨A21, n22, n23, rfl, o6, b6⟩
    refine ⟨A21, n22, n23, _, rfl, ok_ret b6 f5, ?_⟩
    refine ⟨A21, n22, n23, by rw [putS, if_neg e0], ?_, fr_below (f5.step b6)⟩
    rw [putS, if_neg e0]
    exact o6.base' fun k hk => Nat.le_trans f5.size (Own.lt o6 k hk).1
end Go.Proofs.YtfjenamomipmdaaDoor


/- Script: digits; Print of both; the document's example. -/
set_option linter.unusedSimpArgs false
set_option linter.unusedVariables false
namespace Go.Proofs.YtfjenamomipmdaaDoor
open Go Go.RowKit Go.Proofs Go.Trc Go.Sx
theorem step_at {w : World} {ok : Nat → Prop} {A : Option Addr} {n c : Nat} {ls : List StepV} (h : Sl w ok (.slice A n c) ls) (k : Nat) (hk : k < ls.length) :
    ∃ b o A1 n1 c1, A = some ⟨b, o, none⟩ ∧ CellsAt w b (o + k * 5 + 0) [.int .i64 ls[k].1, .int .i64 ls[k].2.1, .int .i64 ls[k].2.2.1, .int .i64 ls[k].2.2.2.1, .slice A1 n1 c1] ∧ Sl w ok (.slice A1 n1 c1) ls[k].2.2.2.2 := by
  obtain ⟨b, o, hA, hok, cs, hK, hcc⟩ := h.elem k hk
  obtain ⟨_, _, rfl, ⟨rfl, _⟩, _, _, rfl, ⟨rfl, _⟩, _, _, rfl, ⟨rfl, _⟩, _, _, rfl, ⟨rfl, _⟩, v, rfl, hs⟩ := hK
  obtain ⟨A1, c1, rfl, _⟩ := id hs
  exact ⟨b, o, A1, ls[k].2.2.2.2.length, c1, hA, hcc, hs⟩
theorem cat_c {w : World} (xs ys : List UInt8) (hl : xs.length + ys.length ≤ 9223372036854775807) : (binOp .add 9 (.string ⟨xs.toArray⟩) (.string ⟨ys.toArray⟩)).run Tryd.prog w = .ok (.string ⟨(xs ++ ys).toArray⟩) w := by
  have e : (⟨xs.toArray⟩ : ByteArray) ++ ⟨ys.toArray⟩ = ⟨(xs ++ ys).toArray⟩ := by
    apply ByteArray.ext
    rw [ByteArray.data_append]
    simp
  rw [← e]
  go_simp
theorem tdiv16 (x : UInt8) : IntKind.u8.wrap (Int.tdiv (x.toNat : Int) (16 : Int)) = ((x.toNat / 16 : Nat) : Int) := by
  have := x.toNat_lt
  rw [Int.tdiv_eq_ediv_of_nonneg (by omega)]
  simp only [IntKind.wrap, IntKind.bits, IntKind.signed]
  simp
  omega
theorem tmod16 (x : UInt8) : Int.tmod (x.toNat : Int) (16 : Int) = ((x.toNat % 16 : Nat) : Int) := by
  rw [Int.tmod_eq_emod_of_nonneg (by omega)]; omega
set_option maxHeartbeats 1000000 in
theorem digits_c {w : World} {ok : Nat → Prop} {A : Option Addr} {n c : Nat} {xs : List UInt8} (h : Sl w ok (.slice A n c) xs) (hl : n ≤ 1000000) :
    Calls Tryd.prog 57 #[.slice A n c] w (Ret (.string ⟨(hexB xs).toArray⟩) w) := by
  have hn := h.len
  refine digits_sx _ (fun b => some b = none) w A n c ?_
  intro g3 hg3
  refine ⟨fun A n c i w' => ∃ k : Nat, i = (k : Int) ∧ k ≤ xs.length ∧ Rw none w w.heap.size 5 w' (.slice A n c) (hexB (xs.take k)) [g3], fun _ _ _ i _ => (n - i : Int).toNat, ?_, ?_⟩
  · intro w1 f1 b1 lo3 t3
    exact ⟨0, rfl, Nat.zero_le _, Rw.first (fr_none f1) hg3 t3 (by simp; exact heap_lt t3)⟩
  · rintro A4 n5 n6 _ w2 f2 ⟨k, rfl, hk, r⟩
    refine ⟨fun hlt => ?_, fun hge => ?_⟩
    · have hlt' : k < xs.length := by omega
      have hx := xs[k].toNat_lt
      have h2 := h.below (fr_below (fr_none f2))
      obtain ⟨p, o, rfl, hp, hc⟩ := byte_at h2 k hlt'
      refine ⟨[], by simp, by omega, hlt, p, o, rfl, fun w3 f3 b3 => ?_⟩
      obtain ⟨p', o', hA', _, hc3⟩ := byte_at (h2.below b3) k hlt'
      injection hA' with hA'; injection hA' with e1 e2
      subst e1; subst e2
      refine ⟨_, hc3, ⟨hp, by simp⟩, by decide, ?_⟩
      rw [tdiv16]
      refine ⟨_, fun w' _ => hex_at _ (by omega) _, by omega, hlt, p, o, rfl, _, hc3, ⟨hp, by simp⟩, by decide, ?_⟩
      rw [tmod16]
      refine ⟨_, fun w' _ => hex_at _ (by omega) _, fun g17 hg17 w4 f4 b4 lo17 t17 => ?_⟩
      have r3 := r.on b3 [] (by simp)
      have r4 := r3.on b4 [g17] (by simp only [List.mem_singleton]; rintro _ rfl; exact ⟨lo17, heap_lt t17⟩)
      obtain ⟨w5, A5, n5, c5, hr5, m5, r5⟩ := r4.append 22 22 (.int .u8 0) 1 Tryd.underlying22 infoB1 rfl (arg_cells [dg (xs[k].toNat / 16), dg (xs[k].toNat % 16)] 2 rfl t17 (by decide) (fun _ _ => trivial)) (by rw [hexB_len, List.length_take]; simp; omega) (by rw [hexB_len, List.length_take]; simp; omega)
      refine ⟨w5, A5, n5, c5, hr5, m5, ⟨k + 1, by rw [wrap_in (by omega)]; rfl, hlt', ?_⟩, by dsimp only; rw [wrap_in (by omega)]; omega⟩
      rw [hex_take xs k hlt']
      exact r5.less' (by intro g hg; simp at hg ⊢; omega)
    · refine ⟨_, str_of r.own.sl, ?_⟩
      rw [List.take_of_length_le (by omega)]
      exact ⟨rfl, fr_below (fr_none f2)⟩
end Go.Proofs.YtfjenamomipmdaaDoor
