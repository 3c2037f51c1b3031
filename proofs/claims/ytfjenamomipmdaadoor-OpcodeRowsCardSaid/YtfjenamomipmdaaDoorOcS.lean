/- Opcode: what the takers take from bytes. -/
import Derived.Test.YtfjenamomipmdaaDoorOcG
import Derived.Test.YtfjenamomipmdaaDoorOcR
set_option linter.unusedSimpArgs false
set_option linter.unusedVariables false
namespace Go.Proofs.YtfjenamomipmdaaDoor
open Go Go.RowKit Go.Proofs Go.Trc Go.Sx
/-- A number out of its bytes. -/
def bigV (l : List UInt8) : Int := l.foldl (fun a c => a * 256 + (c.toNat : Int)) 0
theorem bigV_snoc (l : List UInt8) (x : UInt8) : bigV (l ++ [x]) = bigV l * 256 + (x.toNat : Int) := by unfold bigV; rw [List.foldl_append]; rfl
theorem bigV_lt (l : List UInt8) : 0 ≤ bigV l ∧ bigV l < 256 ^ l.length := by
  suffices h : ∀ (n : Nat) (l : List UInt8), l.length = n → 0 ≤ bigV l ∧ bigV l < 256 ^ n from h _ l rfl
  intro n
  induction n with
  | zero => intro l hl; rw [List.eq_nil_of_length_eq_zero hl]; exact ⟨by decide, by decide⟩
  | succ n ih =>
    intro l hl
    have hne : l ≠ [] := fun h => by rw [h] at hl; cases hl
    have h1 := ih l.dropLast (by rw [List.length_dropLast]; omega)
    rw [← List.dropLast_concat_getLast hne, bigV_snoc]
    have hb := (l.getLast hne).toNat_lt
    rw [Int.pow_succ]
    omega
def identV : List UInt8 → (Int × Int) × List UInt8 × Bool
  | a :: b :: c :: d :: r => if idOk a.toNat (bigV [b, c, d]) then (((a.toNat : Int), bigV [b, c, d]), r, true) else ((0, 0), a :: b :: c :: d :: r, false)
  | xs => ((0, 0), xs, false)
def uptoV (m : Nat) : List UInt8 → Int × List UInt8 × Bool
  | c :: r => if c.toNat ≤ m then ((c.toNat : Int), r, true) else (0, c :: r, false)
  | [] => (0, [], false)
def countV : List UInt8 → List UInt8 × List UInt8 × Bool
  | c :: r => if c.toNat ≤ r.length then (r.take c.toNat, r.drop c.toNat, true) else ([], c :: r, false)
  | [] => ([], [], false)
def textV (xs : List UInt8) : ByteArray × List UInt8 × Bool := (⟨(countV xs).1.toArray⟩, (countV xs).2)
def numV (xs : List UInt8) : Int × List UInt8 × Bool := if xs.length < 8 then (0, xs, false) else (IntKind.i64.wrap (bigV (xs.take 8)), xs.drop 8, true)
/-- A call that takes: what, what is left, and whether there was. -/
def TakeR {α : Type} (w : World) (ok : Nat → Prop) (enc : α → Value) (x : α × List UInt8 × Bool) (e : Ending) (w' : World) : Prop :=
  ∃ A n c, e = .returned (.tuple #[enc x.1, .slice A n c, .bool x.2.2]) ∧ Sl w ok (.slice A n c) x.2.1 ∧ Below w.heap.size w w'
def encI (x : Int) : Value := .int .i64 x
def encS (x : ByteArray) : Value := .string x
def encP (x : Int × Int) : Value := .agg #[.int .i64 x.1, .int .i64 x.2]
theorem or_low {x : Int} {b : UInt8} (h : 0 ≤ x ∧ x < 16777216) : bits .or .i64 (IntKind.i64.wrap (x * 2 ^ 8)) (IntKind.i64.wrap (b.toNat : Int)) = x * 256 + (b.toNat : Int) := by
  obtain ⟨n, rfl⟩ : ∃ n : Nat, x = n := ⟨x.toNat, by omega⟩
  have hb := b.toNat_lt
  rw [show ((n : Int) * 2 ^ 8) = ((n * 256 : Nat) : Int) by norm_cast, wrap_in (by omega), wrap_in (by omega)]
  show IntKind.i64.wrap (((BitVec.ofInt 64 ((n * 256 : Nat) : Int) ||| BitVec.ofInt 64 (b.toNat : Int)).toNat : Nat) : Int) = _
  rw [BitVec.ofInt_natCast, BitVec.ofInt_natCast, BitVec.toNat_or, BitVec.toNat_ofNat, BitVec.toNat_ofNat, Nat.mod_eq_of_lt (by omega), Nat.mod_eq_of_lt (by omega)]
  have : n * 256 ||| b.toNat = n * 256 + b.toNat := by
    have := Nat.shiftLeft_add_eq_or_of_lt (b := b.toNat) (i := 8) (by omega) n
    rw [Nat.shiftLeft_eq] at this
    exact this.symm
  rw [this, wrap_in (by omega)]
  omega
theorem or_low_u {x : Int} {b : UInt8} (h : 0 ≤ x ∧ x < 72057594037927936) : bits .or .u64 (IntKind.u64.wrap (x * 2 ^ 8)) (IntKind.u64.wrap (b.toNat : Int)) = x * 256 + (b.toNat : Int) := by
  obtain ⟨n, rfl⟩ : ∃ n : Nat, x = n := ⟨x.toNat, by omega⟩
  have hb := b.toNat_lt
  rw [show ((n : Int) * 2 ^ 8) = ((n * 256 : Nat) : Int) by norm_cast, u64_wrap, u64_wrap, Int.emod_eq_of_lt (by omega) (by omega), Int.emod_eq_of_lt (by omega) (by omega)]
  show IntKind.u64.wrap (((BitVec.ofInt 64 ((n * 256 : Nat) : Int) ||| BitVec.ofInt 64 (b.toNat : Int)).toNat : Nat) : Int) = _
  rw [BitVec.ofInt_natCast, BitVec.ofInt_natCast, BitVec.toNat_or, BitVec.toNat_ofNat, BitVec.toNat_ofNat, Nat.mod_eq_of_lt (by omega), Nat.mod_eq_of_lt (by omega)]
  have : n * 256 ||| b.toNat = n * 256 + b.toNat := by
    have := Nat.shiftLeft_add_eq_or_of_lt (b := b.toNat) (i := 8) (by omega) n
    rw [Nat.shiftLeft_eq] at this
    exact this.symm
  rw [this, u64_wrap, Int.emod_eq_of_lt (by omega) (by omega)]
  omega
/-- 'xs[k:]', 'xs[k:m]'. -/
theorem lo_b {w : World} {ok : Nat → Prop} {A : Option Addr} {n c k : Nat} {xs : List UInt8} (h : Sl w ok (.slice A n c) xs) (hk : k ≤ n) :
    ∃ A', (∀ w', (Instr.sliceAt 22 (.slice A n c) (some (.int .i64 (k : Int))) none none).run Tryd.prog w' = .ok (.slice A' (n - k) (c - k)) w') ∧ Sl w ok (.slice A' (n - k) (c - k)) (xs.drop k) := by
  obtain ⟨i, hi, _, hsz, _⟩ := infoB2
  exact cut_lo 22 5 Tryd.underlying22 hi hsz h hk
theorem hi_b {w : World} {ok : Nat → Prop} {A : Option Addr} {n c k : Nat} {xs : List UInt8} (h : Sl w ok (.slice A n c) xs) (hk : k ≤ n) :
    (∀ w', (Instr.sliceAt 22 (.slice A n c) none (some (.int .i64 (k : Int))) none).run Tryd.prog w' = .ok (.slice A k c) w') ∧ Sl w ok (.slice A k c) (xs.take k) := by
  obtain ⟨i, hi, _, hsz, _⟩ := infoB2
  exact cut_hi 22 5 Tryd.underlying22 hi h hk
theorem mid_b {w : World} {ok : Nat → Prop} {A : Option Addr} {n c k m : Nat} {xs : List UInt8} (h : Sl w ok (.slice A n c) xs) (hk : k ≤ m) (hm : m ≤ n) :
    ∃ A', (∀ w', (Instr.sliceAt 22 (.slice A n c) (some (.int .i64 (k : Int))) (some (.int .i64 (m : Int))) none).run Tryd.prog w' = .ok (.slice A' (m - k) (c - k)) w') ∧ Sl w ok (.slice A' (m - k) (c - k)) ((xs.take m).drop k) := by
  obtain ⟨i, hi, _, hsz, _⟩ := infoB2
  have hn := h.len_eq
  have s1 := h.take m c (by omega) (by omega) (Nat.le_refl _)
  refine ⟨_, fun w' => ?_, s1.drop k (by rw [List.length_take]; omega)⟩
  have h0 : (0 : Int) ≤ k := by omega
  have h1 : (k : Int) ≤ m := by omega
  have h2 : (0 : Int) ≤ m := by omega
  have h3 : (m : Int) ≤ c := by omega
  have h4 : m ≤ c := by omega
  have e : Rep.sz UInt8 = 1 := rfl
  simp [Instr.sliceAt, run_underlying Tryd.underlying22, Instr.slice, Instr.sliceBounds, Instr.sliceBound, asIntOf, h0, h1, h2, h3, h4, hk, Go.Sx.run_sizeOf hi, hsz, e]
theorem byte_at {w : World} {ok : Nat → Prop} {A : Option Addr} {n c : Nat} {xs : List UInt8} (h : Sl w ok (.slice A n c) xs) (k : Nat) (hk : k < xs.length) :
    ∃ b o, A = some ⟨b, o, none⟩ ∧ b < w.heap.size ∧ CellsAt w b (o + k * 1 + 0) [.int .u8 (xs[k].toNat : Int)] := by
  obtain ⟨b, o, hA, _, hl, _, hc⟩ := Sl.cells h k hk
  exact ⟨b, o, hA, hl, hc⟩
theorem i64_byte (b : UInt8) : IntKind.i64.wrap (b.toNat : Int) = (b.toNat : Int) := wrap_in (by have := b.toNat_lt; omega)
theorem u64_byte (b : UInt8) : IntKind.u64.wrap (b.toNat : Int) = (b.toNat : Int) := by rw [u64_wrap]; have := b.toNat_lt; omega
theorem identV_cons (a b c d : UInt8) (r : List UInt8) : identV (a :: b :: c :: d :: r) = if idOk a.toNat (bigV [b, c, d]) then (((a.toNat : Int), bigV [b, c, d]), r, true) else ((0, 0), a :: b :: c :: d :: r, false) := rfl
theorem identV_short {xs : List UInt8} (h : xs.length < 4) : identV xs = ((0, 0), xs, false) := by
  match xs, h with
  | [], _ => rfl
  | [_], _ => rfl
  | [_, _], _ => rfl
  | [_, _, _], _ => rfl
theorem four_of {xs : List UInt8} (h : 4 ≤ xs.length) : ∃ a b c d r, xs = a :: b :: c :: d :: r := by
  match xs, h with
  | a :: b :: c :: d :: r, _ => exact ⟨a, b, c, d, r, rfl⟩
theorem take_snoc {α : Type} (l : List α) (k : Nat) (h : k < l.length) : l.take (k + 1) = l.take k ++ [l[k]] := by rw [List.take_add_one, List.getElem?_eq_getElem h]; rfl
set_option maxHeartbeats 1000000 in
theorem identTake_c {w : World} {ok : Nat → Prop} {A : Option Addr} {n c : Nat} {xs : List UInt8} (h : Sl w ok (.slice A n c) xs) : Calls Tryd.prog 99 #[.slice A n c] w (TakeR w ok encP (identV xs)) := by
  have hn := h.len
  refine identTake_sx _ (fun _ => False) w A n c ?_
  intro g3 hg3
  refine ⟨fun hlt w1 f1 b1 lo t => ?_, fun hge => ?_⟩
  · rw [identV_short (by omega)]; exact ⟨A, n, c, rfl, h, b1⟩
  obtain ⟨a, b, d, f, r, rfl⟩ := four_of (xs := xs) (by omega)
  obtain ⟨p, o, hA, hp, -⟩ := byte_at h 0 (by simp)
  refine ⟨by omega, by omega, p, o, hA, fun w1 f1 b1 lo3 t3 => ?_⟩
  obtain ⟨p', o', hA', -, c1⟩ := byte_at (h.below b1) 0 (by simp)
  rw [hA] at hA'; injection hA' with e1; injection e1 with e1 e2; subst e1; subst e2
  refine ⟨_, c1, fun g7 hg7 w2 f2 b2 lo7 t7 => ?_⟩
  obtain ⟨A8, hr8, s8⟩ := mid_b h (k := 1) (m := 4) (by omega) (by omega)
  have e8 : ((a :: b :: d :: f :: r).take 4).drop 1 = [b, d, f] := rfl
  rw [e8] at s8
  refine ⟨A8, _, _, hr8 w2, fun i x w' => ∃ k : Nat, i = (k : Int) ∧ k ≤ 3 ∧ x = bigV ([b, d, f].take k), fun i _ _ => (3 - i).toNat, ⟨0, rfl, by omega, rfl⟩, ?_⟩
  rintro _ _ w3 f3 ⟨k, rfl, hk, rfl⟩ t7'
  have hav : IntKind.i64.wrap (((a :: b :: d :: f :: r)[0].toNat : Nat) : Int) = (a.toNat : Int) := i64_byte a
  refine ⟨fun hlt => ?_, fun hge3 => ?_⟩
  · have hk3 : k < 3 := by omega
    have s3 := s8.below (fr_below f3)
    obtain ⟨p3, o3, hA3, -, c3⟩ := byte_at s3 k hk3
    refine ⟨by omega, hlt, p3, o3, hA3, _, by simpa using c3, fun w4 f4 q4 => ⟨⟨k + 1, by rw [wrap_in (by omega)]; rfl, by omega, ?_⟩, by dsimp only; rw [wrap_in (by omega)]; omega⟩⟩
    have hv := bigV_lt ([b, d, f].take k)
    have hl : ([b, d, f].take k).length = k := by rw [List.length_take]; simp; omega
    rw [hl] at hv
    have : (256 : Int) ^ k ≤ 65536 := by rcases (show k = 0 ∨ k = 1 ∨ k = 2 by omega) with h | h | h <;> rw [h] <;> decide
    rw [or_low ⟨hv.1, by omega⟩, take_snoc [b, d, f] k hk3, bigV_snoc]
  · obtain rfl : k = 3 := by omega
    have hN : bigV ([b, d, f].take 3) = bigV [b, d, f] := rfl
    rw [hav, hN]
    refine (may_id w3 a.toNat (bigV [b, d, f])).mono ?_
    rintro e w4 ⟨rfl, b4⟩
    have f4 := f3.step b4
    refine ⟨_, rfl, ok_ret b4 f3, fun hb w5 f5 q5 => ?_, fun hb => ⟨fun w5 f5 b5 => ?_, fun w5 f5 q5 => ?_⟩⟩
    · rw [identV_cons, if_neg (by rw [hb]; decide)]
      exact ⟨A, n, c, rfl, h, fr_below f5⟩
    · obtain ⟨A9, hr9, s9⟩ := lo_b h (k := 4) (by omega)
      refine ⟨A9, _, _, fun w' _ => hr9 w', fun w6 f6 q6 => ?_⟩
      rw [identV_cons, if_pos hb]
      exact ⟨A9, _, _, rfl, s9, fr_below f6⟩
    · obtain ⟨A9, hr9, s9⟩ := lo_b h (k := 4) (by omega)
      refine ⟨A9, _, _, hr9 w5, ?_⟩
      rw [identV_cons, if_pos hb]
      exact ⟨A9, _, _, rfl, s9, fr_below f5⟩
end Go.Proofs.YtfjenamomipmdaaDoor
