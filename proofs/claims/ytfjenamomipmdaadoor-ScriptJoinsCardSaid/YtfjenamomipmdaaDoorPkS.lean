/- Opcode: what the takers take from bytes. -/
import Derived.Test.YtfjenamomipmdaaDoorPkE
import Derived.Test.YtfjenamomipmdaaDoorOcR
set_option linter.unusedSimpArgs false
set_option linter.unusedVariables false
namespace Go.Proofs.YtfjenamomipmdaaDoor
open Go Go.RowKit Go.Proofs Go.Trc Go.Sx
/-- A number out of its bytes. -/
def bigV (l : List UInt8) : Int := l.foldl (fun a c => a * 256 + (c.toNat : Int)) 0
theorem bigV_snoc (l : List UInt8) (x : UInt8) : bigV (l ++ [x]) = bigV l * 256 + (x.toNat : Int) := by unfold bigV; rw [List.foldl_append]; rfl
theorem bigV_lt (l : List UInt8) : 0 ≤ bigV l ∧ bigV l < 256 ^ l.length := by
  suffices h : ∀ (n : Nat) (l : List UInt8), l.length = n → 0 ≤ bigV l ∧ bigV l < 256 ^ n from h _ l rfl
  intro n
  induction n with
  | zero => intro l hl; rw [List.eq_nil_of_length_eq_zero hl]; exact ⟨by decide, by decide⟩
  | succ n ih =>
    intro l hl
    have hne : l ≠ [] := fun h => by rw [h] at hl; cases hl
    have h1 := ih l.dropLast (by rw [List.length_dropLast]; omega)
    rw [← List.dropLast_concat_getLast hne, bigV_snoc]
    have hb := (l.getLast hne).toNat_lt
    rw [Int.pow_succ]
    omega
def identV : List UInt8 → (Int × Int) × List UInt8 × Bool
  | a :: b :: c :: d :: r => if idOk a.toNat (bigV [b, c, d]) then (((a.toNat : Int), bigV [b, c, d]), r, true) else ((0, 0), a :: b :: c :: d :: r, false)
  | xs => ((0, 0), xs, false)
def uptoV (m : Nat) : List UInt8 → Int × List UInt8 × Bool
  | c :: r => if c.toNat ≤ m then ((c.toNat : Int), r, true) else (0, c :: r, false)
  | [] => (0, [], false)
def countV : List UInt8 → List UInt8 × List UInt8 × Bool
  | c :: r => if c.toNat ≤ r.length then (r.take c.toNat, r.drop c.toNat, true) else ([], c :: r, false)
  | [] => ([], [], false)
def textV (xs : List UInt8) : ByteArray × List UInt8 × Bool := (⟨(countV xs).1.toArray⟩, (countV xs).2)
def numV (xs : List UInt8) : Int × List UInt8 × Bool := if xs.length < 8 then (0, xs, false) else (IntKind.i64.wrap (bigV (xs.take 8)), xs.drop 8, true)
/-- A call that takes: what, what is left, and whether there was. -/
def TakeR {α : Type} (w : World) (ok : Nat → Prop) (enc : α → Value) (x : α × List UInt8 × Bool) (e : Ending) (w' : World) : Prop :=
  ∃ A n c, e = .returned (.tuple #[enc x.1, .slice A n c, .bool x.2.2]) ∧ Sl w ok (.slice A n c) x.2.1 ∧ Below w.heap.size w w'
def encI (x : Int) : Value := .int .i64 x
def encS (x : ByteArray) : Value := .string x
def encP (x : Int × Int) : Value := .agg #[.int .i64 x.1, .int .i64 x.2]
theorem or_low {x : Int} {b : UInt8} (h : 0 ≤ x ∧ x < 16777216) : bits .or .i64 (IntKind.i64.wrap (x * 2 ^ 8)) (IntKind.i64.wrap (b.toNat : Int)) = x * 256 + (b.toNat : Int) := by
  obtain ⟨n, rfl⟩ : ∃ n : Nat, x = n := ⟨x.toNat, by omega⟩
  have hb := b.toNat_lt
  rw [show ((n : Int) * 2 ^ 8) = ((n * 256 : Nat) : Int) by norm_cast, wrap_in (by omega), wrap_in (by omega)]
  show IntKind.i64.wrap (((BitVec.ofInt 64 ((n * 256 : Nat) : Int) ||| BitVec.ofInt 64 (b.toNat : Int)).toNat : Nat) : Int) = _
  rw [BitVec.ofInt_natCast, BitVec.ofInt_natCast, BitVec.toNat_or, BitVec.toNat_ofNat, BitVec.toNat_ofNat, Nat.mod_eq_of_lt (by omega), Nat.mod_eq_of_lt (by omega)]
  have : n * 256 ||| b.toNat = n * 256 + b.toNat := by
    have := Nat.shiftLeft_add_eq_or_of_lt (b := b.toNat) (i := 8) (by omega) n
    rw [Nat.shiftLeft_eq] at this
    exact this.symm
  rw [this, wrap_in (by omega)]
  omega
theorem or_low_u {x : Int} {b : UInt8} (h : 0 ≤ x ∧ x < 72057594037927936) : bits .or .u64 (IntKind.u64.wrap (x * 2 ^ 8)) (IntKind.u64.wrap (b.toNat : Int)) = x * 256 + (b.toNat : Int) := by
  obtain ⟨n, rfl⟩ : ∃ n : Nat, x = n := ⟨x.toNat, by omega⟩
  have hb := b.toNat_lt
  rw [show ((n : Int) * 2 ^ 8) = ((n * 256 : Nat) : Int) by norm_cast, u64_wrap, u64_wrap, Int.emod_eq_of_lt (by omega) (by omega), Int.emod_eq_of_lt (by omega) (by omega)]
  show IntKind.u64.wrap (((BitVec.ofInt 64 ((n * 256 : Nat) : Int) ||| BitVec.ofInt 64 (b.toNat : Int)).toNat : Nat) : Int) = _
  rw [BitVec.ofInt_natCast, BitVec.ofInt_natCast, BitVec.toNat_or, BitVec.toNat_ofNat, BitVec.toNat_ofNat, Nat.mod_eq_of_lt (by omega), Nat.mod_eq_of_lt (by omega)]
  have : n * 256 ||| b.toNat = n * 256 + b.toNat := by
    have := Nat.shiftLeft_add_eq_or_of_lt (b := b.toNat) (i := 8) (by omega) n
    rw [Nat.shiftLeft_eq] at this
    exact this.symm
  rw [this, u64_wrap, Int.emod_eq_of_lt (by omega) (by omega)]
  omega
/-- 'xs[k:]', 'xs[k:m]'. -/
theorem lo_b {w : World} {ok : Nat → Prop} {A : Option Addr} {n c k : Nat} {xs : List UInt8} (h : Sl w ok (.slice A n c) xs) (hk : k ≤ n) :
    ∃ A', (∀ w', (Instr.sliceAt 22 (.slice A n c) (some (.int .i64 (k : Int))) none none).run Tryd.prog w' = .ok (.slice A' (n - k) (c - k)) w') ∧ Sl w ok (.slice A' (n - k) (c - k)) (xs.drop k) := by
  obtain ⟨i, hi, _, hsz, _⟩ := infoB2
  exact cut_lo 22 5 Tryd.underlying22 hi hsz h hk
theorem hi_b {w : World} {ok : Nat → Prop} {A : Option Addr} {n c k : Nat} {xs : List UInt8} (h : Sl w ok (.slice A n c) xs) (hk : k ≤ n) :
    (∀ w', (Instr.sliceAt 22 (.slice A n c) none (some (.int .i64 (k : Int))) none).run Tryd.prog w' = .ok (.slice A k c) w') ∧ Sl w ok (.slice A k c) (xs.take k) := by
  obtain ⟨i, hi, _, hsz, _⟩ := infoB2
  exact cut_hi 22 5 Tryd.underlying22 hi h hk
theorem mid_b {w : World} {ok : Nat → Prop} {A : Option Addr} {n c k m : Nat} {xs : List UInt8} (h : Sl w ok (.slice A n c) xs) (hk : k ≤ m) (hm : m ≤ n) :
    ∃ A', (∀ w', (Instr.sliceAt 22 (.slice A n c) (some (.int .i64 (k : Int))) (some (.int .i64 (m : Int))) none).run Tryd.prog w' = .ok (.slice A' (m - k) (c - k)) w') ∧ Sl w ok (.slice A' (m - k) (c - k)) ((xs.take m).drop k) := by
  obtain ⟨i, hi, _, hsz, _⟩ := infoB2
  have hn := h.len_eq
  have s1 := h.take m c (by omega) (by omega) (Nat.le_refl _)
  refine ⟨_, fun w' => ?_, s1.drop k (by rw [List.length_take]; omega)⟩
  have h0 : (0 : Int) ≤ k := by omega
  have h1 : (k : Int) ≤ m := by omega
  have h2 : (0 : Int) ≤ m := by omega
  have h3 : (m : Int) ≤ c := by omega
  have h4 : m ≤ c := by omega
  have e : Rep.sz UInt8 = 1 := rfl
  simp [Instr.sliceAt, run_underlying Tryd.underlying22, Instr.slice, Instr.sliceBounds, Instr.sliceBound, asIntOf, h0, h1, h2, h3, h4, hk, Go.Sx.run_sizeOf hi, hsz, e]
theorem byte_at {w : World} {ok : Nat → Prop} {A : Option Addr} {n c : Nat} {xs : List UInt8} (h : Sl w ok (.slice A n c) xs) (k : Nat) (hk : k < xs.length) :
    ∃ b o, A = some ⟨b, o, none⟩ ∧ b < w.heap.size ∧ CellsAt w b (o + k * 1 + 0) [.int .u8 (xs[k].toNat : Int)] := by
  obtain ⟨b, o, hA, _, hl, _, hc⟩ := Sl.cells h k hk
  exact ⟨b, o, hA, hl, hc⟩
theorem i64_byte (b : UInt8) : IntKind.i64.wrap (b.toNat : Int) = (b.toNat : Int) := wrap_in (by have := b.toNat_lt; omega)
theorem u64_byte (b : UInt8) : IntKind.u64.wrap (b.toNat : Int) = (b.toNat : Int) := by rw [u64_wrap]; have := b.toNat_lt; omega
theorem identV_cons (a b c d : UInt8) (r : List UInt8) : identV (a :: b :: c :: d :: r) = if idOk a.toNat (bigV [b, c, d]) then (((a.toNat : Int), bigV [b, c, d]), r, true) else ((0, 0), a :: b :: c :: d :: r, false) := rfl
theorem identV_short {xs : List UInt8} (h : xs.length < 4) : identV xs = ((0, 0), xs, false) := by
  match xs, h with
  | [], _ => rfl
  | [_], _ => rfl
  | [_, _], _ => rfl
  | [_, _, _], _ => rfl
theorem four_of {xs : List UInt8} (h : 4 ≤ xs.length) : ∃ a b c d r, xs = a :: b :: c :: d :: r := by
  match xs, h with
  | a :: b :: c :: d :: r, _ => exact ⟨a, b, c, d, r, rfl⟩
theorem take_snoc {α : Type} (l : List α) (k : Nat) (h : k < l.length) : l.take (k + 1) = l.take k ++ [l[k]] := by rw [List.take_add_one, List.getElem?_eq_getElem h]; rfl
set_option maxHeartbeats 1000000 in
theorem identTake_c {w : World} {ok : Nat → Prop} {A : Option Addr} {n c : Nat} {xs : List UInt8} (h : Sl w ok (.slice A n c) xs) : Calls Tryd.prog 99 #[.slice A n c] w (TakeR w ok encP (identV xs)) := by
  have hn := h.len
  refine identTake_sx _ (fun _ => False) w A n c ?_
  intro g3 hg3
  refine ⟨fun hlt w1 f1 b1 lo t => ?_, fun hge => ?_⟩
  · rw [identV_short (by omega)]; exact ⟨A, n, c, rfl, h, b1⟩
  obtain ⟨a, b, d, f, r, rfl⟩ := four_of (xs := xs) (by omega)
  obtain ⟨p, o, hA, hp, -⟩ := byte_at h 0 (by simp)
  refine ⟨by omega, by omega, p, o, hA, fun w1 f1 b1 lo3 t3 => ?_⟩
  obtain ⟨p', o', hA', -, c1⟩ := byte_at (h.below b1) 0 (by simp)
  rw [hA] at hA'; injection hA' with e1; injection e1 with e1 e2; subst e1; subst e2
  refine ⟨_, c1, fun g7 hg7 w2 f2 b2 lo7 t7 => ?_⟩
  obtain ⟨A8, hr8, s8⟩ := mid_b h (k := 1) (m := 4) (by omega) (by omega)
  have e8 : ((a :: b :: d :: f :: r).take 4).drop 1 = [b, d, f] := rfl
  rw [e8] at s8
  refine ⟨A8, _, _, hr8 w2, fun i x w' => ∃ k : Nat, i = (k : Int) ∧ k ≤ 3 ∧ x = bigV ([b, d, f].take k), fun i _ _ => (3 - i).toNat, ⟨0, rfl, by omega, rfl⟩, ?_⟩
  rintro _ _ w3 f3 ⟨k, rfl, hk, rfl⟩ t7'
  have hav : IntKind.i64.wrap (((a :: b :: d :: f :: r)[0].toNat : Nat) : Int) = (a.toNat : Int) := i64_byte a
  refine ⟨fun hlt => ?_, fun hge3 => ?_⟩
  · have hk3 : k < 3 := by omega
    have s3 := s8.below (fr_below f3)
    obtain ⟨p3, o3, hA3, -, c3⟩ := byte_at s3 k hk3
    refine ⟨by omega, hlt, p3, o3, hA3, _, by simpa using c3, fun w4 f4 q4 => ⟨⟨k + 1, by rw [wrap_in (by omega)]; rfl, by omega, ?_⟩, by dsimp only; rw [wrap_in (by omega)]; omega⟩⟩
    have hv := bigV_lt ([b, d, f].take k)
    have hl : ([b, d, f].take k).length = k := by rw [List.length_take]; simp; omega
    rw [hl] at hv
    have : (256 : Int) ^ k ≤ 65536 := by rcases (show k = 0 ∨ k = 1 ∨ k = 2 by omega) with h | h | h <;> rw [h] <;> decide
    rw [or_low ⟨hv.1, by omega⟩, take_snoc [b, d, f] k hk3, bigV_snoc]
  · obtain rfl : k = 3 := by omega
    have hN : bigV ([b, d, f].take 3) = bigV [b, d, f] := rfl
    rw [hav, hN]
    refine (may_id w3 a.toNat (bigV [b, d, f])).mono ?_
    rintro e w4 ⟨rfl, b4⟩
    have f4 := f3.step b4
    refine ⟨_, rfl, ok_ret b4 f3, fun hb w5 f5 q5 => ?_, fun hb => ⟨fun w5 f5 b5 => ?_, fun w5 f5 q5 => ?_⟩⟩
    · rw [identV_cons, if_neg (by rw [hb]; decide)]
      exact ⟨A, n, c, rfl, h, fr_below f5⟩
    · obtain ⟨A9, hr9, s9⟩ := lo_b h (k := 4) (by omega)
      refine ⟨A9, _, _, fun w' _ => hr9 w', fun w6 f6 q6 => ?_⟩
      rw [identV_cons, if_pos hb]
      exact ⟨A9, _, _, rfl, s9, fr_below f6⟩
    · obtain ⟨A9, hr9, s9⟩ := lo_b h (k := 4) (by omega)
      refine ⟨A9, _, _, hr9 w5, ?_⟩
      rw [identV_cons, if_pos hb]
      exact ⟨A9, _, _, rfl, s9, fr_below f5⟩
end Go.Proofs.YtfjenamomipmdaaDoor


/- Opcode: what the takers take from bytes: the others. -/
set_option linter.unusedSimpArgs false
set_option linter.unusedVariables false
namespace Go.Proofs.YtfjenamomipmdaaDoor
open Go Go.RowKit Go.Proofs Go.Trc Go.Sx
set_option maxHeartbeats 1000000 in
theorem ref01Take_c {w : World} {ok : Nat → Prop} {A : Option Addr} {n c : Nat} {xs : List UInt8} (h : Sl w ok (.slice A n c) xs) : Calls Tryd.prog 101 #[.slice A n c] w (TakeR w ok encP (identV xs)) := by
  have hn := h.len
  refine ref01Take_sx _ (fun _ => False) w A n c ?_
  intro g3 hg3
  refine ⟨fun hlt w1 f1 b1 lo t => ?_, fun hge w1 f1 b1 lo3 t3 => ?_⟩
  · rw [identV_short (by omega)]; exact ⟨A, n, c, rfl, h, b1⟩
  obtain ⟨a, b, d, f, r, rfl⟩ := four_of (xs := xs) (by omega)
  have h1 := h.below b1
  obtain ⟨p, o, hA, hp, -⟩ := byte_at h1 0 (by simp)
  refine ⟨by omega, by omega, p, o, hA, fun w2 f2 b2 => ?_⟩
  have h2 := h1.below b2
  have at_ : ∀ k (hk : k < (a :: b :: d :: f :: r).length), CellsAt w2 p (o + k * 1 + 0) [.int .u8 (((a :: b :: d :: f :: r)[k].toNat : Nat) : Int)] := fun k hk => by
    obtain ⟨p', o', hA', -, c1⟩ := byte_at h2 k hk
    rw [hA] at hA'; injection hA' with e1; injection e1 with e1 e2; subst e1; subst e2
    exact c1
  refine ⟨_, at_ 0 (by simp), ⟨hp, by simp⟩, by omega, by omega, p, o, hA, _, at_ 1 (by simp), ⟨hp, by simp⟩, by omega, by omega, p, o, hA, _, at_ 2 (by simp), ⟨hp, by simp⟩, by omega, by omega, p, o, hA, _, at_ 3 (by simp), ⟨hp, by simp⟩, ?_⟩
  intro g17 hg17 w3 f3 b3 lo17 t17
  have hb := b.toNat_lt; have hd := d.toNat_lt; have hf := f.toNat_lt
  have e0 : IntKind.i64.wrap (((a :: b :: d :: f :: r)[0].toNat : Nat) : Int) = (a.toNat : Int) := i64_byte a
  have e1 : IntKind.i64.wrap (((a :: b :: d :: f :: r)[1].toNat : Nat) : Int) = (b.toNat : Int) := i64_byte b
  have e2 : IntKind.i64.wrap (((a :: b :: d :: f :: r)[2].toNat : Nat) : Int) = (d.toNat : Int) := i64_byte d
  have e3 : IntKind.i64.wrap (((a :: b :: d :: f :: r)[3].toNat : Nat) : Int) = (f.toNat : Int) := i64_byte f
  rw [e0, e1, e2, e3]
  have hN : IntKind.i64.wrap (IntKind.i64.wrap (IntKind.i64.wrap (65536 * (b.toNat : Int)) + IntKind.i64.wrap (256 * (d.toNat : Int))) + (f.toNat : Int)) = bigV [b, d, f] := by
    simp (disch := omega) only [wrap_in]
    simp only [bigV, List.foldl_cons, List.foldl_nil]
    omega
  rw [hN]
  refine (ref01_may_c w3 a.toNat (bigV [b, d, f])).mono ?_
  rintro e w4 ⟨rfl, b4⟩
  have f4 := f3.step b4
  refine ⟨_, rfl, ok_ret b4 f3, fun hb w5 f5 q5 => ?_, fun hb => ⟨fun w5 f5 b5 => ?_, fun w5 f5 q5 => ?_⟩⟩
  · rw [identV_cons, if_neg (by rw [hb]; decide)]
    exact ⟨A, n, c, rfl, h, fr_below f5⟩
  · obtain ⟨A9, hr9, s9⟩ := lo_b h (k := 4) (by omega)
    refine ⟨A9, _, _, fun w' _ => hr9 w', fun w6 f6 q6 => ?_⟩
    rw [identV_cons, if_pos hb]
    exact ⟨A9, _, _, rfl, s9, fr_below f6⟩
  · obtain ⟨A9, hr9, s9⟩ := lo_b h (k := 4) (by omega)
    refine ⟨A9, _, _, hr9 w5, ?_⟩
    rw [identV_cons, if_pos hb]
    exact ⟨A9, _, _, rfl, s9, fr_below f5⟩
theorem numV_short {xs : List UInt8} (h : xs.length < 8) : numV xs = (0, xs, false) := by unfold numV; rw [if_pos h]
theorem numV_long {xs : List UInt8} (h : 8 ≤ xs.length) : numV xs = (IntKind.i64.wrap (bigV (xs.take 8)), xs.drop 8, true) := by unfold numV; rw [if_neg (by omega)]
theorem pow_le8 {k : Nat} (h : k < 8) : (256 : Int) ^ k ≤ 72057594037927936 := by
  rcases (show k = 0 ∨ k = 1 ∨ k = 2 ∨ k = 3 ∨ k = 4 ∨ k = 5 ∨ k = 6 ∨ k = 7 by omega) with h | h | h | h | h | h | h | h <;> rw [h] <;> decide
set_option maxHeartbeats 1000000 in
theorem takeNum_c {w : World} {ok : Nat → Prop} {A : Option Addr} {n c : Nat} {xs : List UInt8} (h : Sl w ok (.slice A n c) xs) : Calls Tryd.prog 51 #[.slice A n c] w (TakeR w ok encI (numV xs)) := by
  have hn := h.len
  refine takeNum_sx _ (fun _ => False) w A n c ⟨fun hlt => ?_, fun hge => ?_⟩
  · rw [numV_short (by omega)]; exact ⟨A, n, c, rfl, h, Below.refl _ _⟩
  obtain ⟨hr8, s8⟩ := hi_b h (k := 8) (by omega)
  have hl8 : (xs.take 8).length = 8 := by rw [List.length_take]; omega
  refine ⟨A, 8, c, hr8 w, fun x i w' => ∃ k : Nat, i = (k : Int) ∧ k ≤ 8 ∧ x = bigV ((xs.take 8).take k), fun _ i _ => (8 - i).toNat, ⟨0, rfl, by omega, rfl⟩, ?_⟩
  rintro _ _ w1 f1 ⟨k, rfl, hk, rfl⟩
  refine ⟨fun hlt => ?_, fun hge3 => ?_⟩
  · have hk3 : k < 8 := by omega
    obtain ⟨p3, o3, hA3, -, c3⟩ := byte_at (s8.below (fr_below f1)) k (by omega)
    refine ⟨by omega, hlt, p3, o3, hA3, _, by simpa using c3, ⟨k + 1, by rw [wrap_in (by omega)]; rfl, by omega, ?_⟩, by dsimp only; rw [wrap_in (by omega)]; omega⟩
    have hv := bigV_lt ((xs.take 8).take k)
    have hl : ((xs.take 8).take k).length = k := by rw [List.length_take, hl8]; omega
    rw [hl] at hv
    have := pow_le8 hk3
    rw [or_low_u ⟨hv.1, by omega⟩, take_snoc (xs.take 8) k (by omega), bigV_snoc, List.getElem_take]
  · obtain rfl : k = 8 := by omega
    intro w2 f2 b2
    obtain ⟨A9, hr9, s9⟩ := lo_b h (k := 8) (by omega)
    refine ⟨A9, _, _, fun w' _ => hr9 w', ?_⟩
    rw [numV_long (by omega), (List.take_of_length_le (by omega) : (xs.take 8).take 8 = xs.take 8)]
    exact ⟨A9, _, _, rfl, s9, fr_below f2⟩
set_option maxHeartbeats 1000000 in
theorem ref08TakeNum_c {w : World} {ok : Nat → Prop} {A : Option Addr} {n c : Nat} {xs : List UInt8} (h : Sl w ok (.slice A n c) xs) : Calls Tryd.prog 52 #[.slice A n c] w (TakeR w ok encI (numV xs)) := by
  have hn := h.len
  refine ref08TakeNum_sx _ (fun _ => False) w A n c ⟨fun hlt => ?_, fun hge => ?_⟩
  · rw [numV_short (by omega)]; exact ⟨A, n, c, rfl, h, Below.refl _ _⟩
  refine ⟨fun x i w' => ∃ k : Nat, i = (k : Int) ∧ k ≤ 8 ∧ x = bigV (xs.take k), fun _ i _ => (8 - i).toNat, ⟨0, rfl, by omega, rfl⟩, ?_⟩
  rintro _ _ w1 f1 ⟨k, rfl, hk, rfl⟩
  refine ⟨fun hlt => ?_, fun hge3 => ?_⟩
  · have hk3 : k < 8 := by omega
    obtain ⟨p3, o3, hA3, -, c3⟩ := byte_at (h.below (fr_below f1)) k (by omega)
    refine ⟨by omega, by omega, p3, o3, hA3, _, by simpa using c3, ⟨k + 1, by rw [wrap_in (by omega)]; rfl, by omega, ?_⟩, by dsimp only; rw [wrap_in (by omega)]; omega⟩
    have hv := bigV_lt (xs.take k)
    have hl : (xs.take k).length = k := by rw [List.length_take]; omega
    rw [hl] at hv
    have := pow_le8 hk3
    have hb := (xs[k]'(by omega)).toNat_lt
    rw [take_snoc xs k (by omega), bigV_snoc, u64_byte, u64_wrap, u64_wrap]
    omega
  · obtain rfl : k = 8 := by omega
    intro w2 f2 b2
    obtain ⟨A9, hr9, s9⟩ := lo_b h (k := 8) (by omega)
    refine ⟨A9, _, _, fun w' _ => hr9 w', ?_⟩
    rw [numV_long (by omega)]
    exact ⟨A9, _, _, rfl, s9, fr_below f2⟩
/-- Bytes, what is left, and whether there were. -/
def CountR (w : World) (ok : Nat → Prop) (x : List UInt8 × List UInt8 × Bool) (e : Ending) (w' : World) : Prop :=
  ∃ A n c A' n' c', e = .returned (.tuple #[.slice A n c, .slice A' n' c', .bool x.2.2]) ∧ Sl w ok (.slice A n c) x.1 ∧ Sl w ok (.slice A' n' c') x.2.1 ∧ Below w.heap.size w w'
theorem countV_cons (a : UInt8) (r : List UInt8) : countV (a :: r) = if a.toNat ≤ r.length then (r.take a.toNat, r.drop a.toNat, true) else ([], a :: r, false) := rfl
set_option maxHeartbeats 1000000 in
theorem counted_c {w : World} {ok : Nat → Prop} {A : Option Addr} {n c : Nat} {xs : List UInt8} (h : Sl w ok (.slice A n c) xs) (hl : n ≤ 1000000) : Calls Tryd.prog 100 #[.slice A n c] w (CountR w ok (countV xs)) := by
  have hn := h.len
  refine counted_sx _ (fun _ => False) w A n c ⟨fun h0 => ?_, fun h0 => ?_⟩
  · obtain rfl : xs = [] := List.eq_nil_of_length_eq_zero (by omega)
    exact ⟨none, 0, 0, A, n, c, rfl, Sl.nil0 _ _, h, Below.refl _ _⟩
  obtain ⟨a, r, rfl⟩ : ∃ a r, xs = a :: r := by cases xs with | nil => simp at hn; omega | cons a r => exact ⟨a, r, rfl⟩
  rw [List.length_cons] at hn
  have ha := a.toNat_lt
  obtain ⟨p, o, hA, hp, c1⟩ := byte_at h 0 (by simp)
  have hav : IntKind.i64.wrap (((a :: r)[0].toNat : Nat) : Int) = (a.toNat : Int) := i64_byte a
  refine ⟨by omega, by omega, p, o, hA, _, c1, ?_⟩
  rw [hav, wrap_in (by omega)]
  refine ⟨fun hlt => ?_, fun hge => ⟨by omega, by omega, p, o, hA, _, c1, fun w1 f1 b1 => ?_⟩⟩
  · rw [countV_cons, if_neg (by omega)]
    exact ⟨none, 0, 0, A, n, c, rfl, Sl.nil0 _ _, h, Below.refl _ _⟩
  · have hm : IntKind.i64.wrap ((1 : Int) + IntKind.i64.wrap (((a :: r)[0].toNat : Nat) : Int)) = ((1 + a.toNat : Nat) : Int) := by rw [hav, wrap_in (by omega)]; omega
    rw [hm]
    obtain ⟨A1, hr1, s1⟩ := mid_b h (k := 1) (m := 1 + a.toNat) (by omega) (by omega)
    obtain ⟨A2, hr2, s2⟩ := lo_b h (k := 1 + a.toNat) (by omega)
    refine ⟨A1, _, _, fun w' _ => hr1 w', A2, _, _, fun w' _ => hr2 w', ?_⟩
    rw [countV_cons, if_pos (by omega)]
    have e1 : ((a :: r).take (1 + a.toNat)).drop 1 = r.take a.toNat := by rw [Nat.add_comm]; rfl
    have e2 : (a :: r).drop (1 + a.toNat) = r.drop a.toNat := by rw [Nat.add_comm]; rfl
    rw [e1] at s1; rw [e2] at s2
    exact ⟨A1, _, _, A2, _, _, rfl, s1, s2, b1⟩
theorem takeText_c {w : World} {ok : Nat → Prop} {A : Option Addr} {n c : Nat} {xs : List UInt8} (h : Sl w ok (.slice A n c) xs) (hl : n ≤ 1000000) : Calls Tryd.prog 74 #[.slice A n c] w (TakeR w ok encS (textV xs)) := by
  refine takeText_sx _ (fun _ => False) w A n c ?_
  refine (counted_c h hl).mono ?_
  rintro e w1 ⟨A1, n1, c1, A2, n2, c2, rfl, s1, s2, b1⟩
  exact ⟨A1, n1, c1, A2, n2, c2, _, rfl, ok_ret b1 (Fr.refl _ _), _, str_of (s1.below b1), A2, n2, c2, rfl, s2, b1⟩
set_option maxHeartbeats 1000000 in
theorem ref08TakeText_c {w : World} {ok : Nat → Prop} {A : Option Addr} {n c : Nat} {xs : List UInt8} (h : Sl w ok (.slice A n c) xs) (hl : n ≤ 1000000) : Calls Tryd.prog 77 #[.slice A n c] w (TakeR w ok encS (textV xs)) := by
  have hn := h.len
  refine ref08TakeText_sx _ (fun _ => False) w A n c ⟨fun h0 => ?_, fun h0 => ?_⟩
  · obtain rfl : xs = [] := List.eq_nil_of_length_eq_zero (by omega)
    exact ⟨A, n, c, rfl, h, Below.refl _ _⟩
  obtain ⟨a, r, rfl⟩ : ∃ a r, xs = a :: r := by cases xs with | nil => simp at hn; omega | cons a r => exact ⟨a, r, rfl⟩
  rw [List.length_cons] at hn
  have ha := a.toNat_lt
  obtain ⟨p, o, hA, hp, c1⟩ := byte_at h 0 (by simp)
  have hm : IntKind.i64.wrap ((1 : Int) + IntKind.i64.wrap (((a :: r)[0].toNat : Nat) : Int)) = ((1 + a.toNat : Nat) : Int) := by
    have hav : IntKind.i64.wrap (((a :: r)[0].toNat : Nat) : Int) = (a.toNat : Int) := i64_byte a
    rw [hav, wrap_in (by omega)]; omega
  refine ⟨by omega, by omega, p, o, hA, _, c1, ?_⟩
  rw [hm]
  refine ⟨fun hlt => ?_, fun hge => ⟨by omega, by omega, p, o, hA, _, c1, fun w1 f1 b1 => ?_⟩⟩
  · unfold textV; rw [countV_cons, if_neg (by omega)]
    exact ⟨A, n, c, rfl, h, Below.refl _ _⟩
  · rw [hm]
    obtain ⟨A1, hr1, s1⟩ := mid_b h (k := 1) (m := 1 + a.toNat) (by omega) (by omega)
    obtain ⟨A2, hr2, s2⟩ := lo_b h (k := 1 + a.toNat) (by omega)
    refine ⟨A1, _, _, fun w' _ => hr1 w', _, fun w' k => str_of (s1.kept b1 k), A2, _, _, fun w' _ => hr2 w', ?_⟩
    unfold textV; rw [countV_cons, if_pos (by omega)]
    have e1 : ((a :: r).take (1 + a.toNat)).drop 1 = r.take a.toNat := by rw [Nat.add_comm]; rfl
    have e2 : (a :: r).drop (1 + a.toNat) = r.drop a.toNat := by rw [Nat.add_comm]; rfl
    rw [e2] at s2
    rw [e1]
    exact ⟨A2, _, _, rfl, s2, b1⟩
theorem uptoV_cons (m : Nat) (a : UInt8) (r : List UInt8) : uptoV m (a :: r) = if a.toNat ≤ m then ((a.toNat : Int), r, true) else (0, a :: r, false) := rfl
/-- What upto hands back. -/
def uptoF (g : Nat) : Value := .func (.func 70) #[] #[.pointer (some ⟨g, 0, none⟩)]
theorem upto_c (w : World) (m : Int) : Calls Tryd.prog 46 #[.int .u8 m] w fun e w' => ∃ g, w.heap.size ≤ g ∧ e = .returned (uptoF g) ∧ w'.heap[g]? = some (.cells #[.int .u8 m] 5 (0, 0)) ∧ Below w.heap.size w w' :=
  upto_sx _ (fun _ => False) w m fun g hg w1 f1 b1 lo t => ⟨_, rfl, g, hg, rfl, t, b1⟩
theorem load_byte {w : World} {g : Nat} {m : Int} (h : w.heap[g]? = some (.cells #[.int .u8 m] 5 (0, 0))) : (Instr.loadAt 5 (.pointer (some ⟨g, 0, none⟩))).run Tryd.prog w = .ok (.int .u8 m) w := by
  have hc : w.cell? ⟨g, 0, none⟩ = some (.int .u8 m) := by rw [cell_of_row w g 0 _ _ _ h]; rfl
  go_simp
set_option maxHeartbeats 1000000 in
theorem upto1_c {w : World} {ok : Nat → Prop} {A : Option Addr} {n c g m : Nat} {xs : List UInt8} (h : Sl w ok (.slice A n c) xs) (hg : w.heap[g]? = some (.cells #[.int .u8 (m : Int)] 5 (0, 0))) :
    Calls Tryd.prog 70 #[.slice A n c, .pointer (some ⟨g, 0, none⟩)] w (TakeR w ok encI (uptoV m xs)) := by
  have hn := h.len
  refine upto1_sx _ (fun _ => False) w A n c _ ⟨fun h0 w1 f1 b1 => ?_, fun h0 => ?_⟩
  · obtain rfl : xs = [] := List.eq_nil_of_length_eq_zero (by omega)
    exact ⟨A, n, c, rfl, h, b1⟩
  obtain ⟨a, r, rfl⟩ : ∃ a r, xs = a :: r := by cases xs with | nil => simp at hn; omega | cons a r => exact ⟨a, r, rfl⟩
  rw [List.length_cons] at hn
  obtain ⟨p, o, hA, hp, -⟩ := byte_at h 0 (by simp)
  have at_ : ∀ w1, Below w.heap.size w w1 → CellsAt w1 p (o + 0 * 1 + 0) [.int .u8 (((a :: r)[0].toNat : Nat) : Int)] := fun w1 b1 => by
    obtain ⟨p', o', hA', -, c1⟩ := byte_at (h.below b1) 0 (by simp)
    rw [hA] at hA'; injection hA' with e1; injection e1 with e1 e2; subst e1; subst e2
    exact c1
  refine ⟨by omega, by omega, p, o, hA, fun w1 f1 b1 => ⟨_, at_ w1 b1, ⟨hp, by simp⟩, (m : Int), fun w' k => load_byte ((k g (heap_lt hg) (by simp)).trans ((b1.block g (heap_lt hg)).trans hg)), fun hlt => ?_, fun hge => ⟨by omega, by omega, p, o, hA, fun w2 f2 b2 => ?_⟩⟩⟩
  · have hlt : (m : Int) < (a.toNat : Int) := hlt
    rw [uptoV_cons, if_neg (by omega)]
    exact ⟨A, n, c, rfl, h, b1⟩
  · have hge : (a.toNat : Int) ≤ (m : Int) := hge
    obtain ⟨A2, hr2, s2⟩ := lo_b h (k := 1) (by omega)
    refine ⟨_, at_ w2 (fr_below f2), ⟨Nat.lt_of_lt_of_le hp b1.size, by simp⟩, A2, _, _, fun w' _ => hr2 w', ?_⟩
    have hav : IntKind.i64.wrap (((a :: r)[0].toNat : Nat) : Int) = (a.toNat : Int) := i64_byte a
    rw [uptoV_cons, if_pos (by omega), hav]
    exact ⟨A2, _, _, rfl, s2, fr_below f2⟩
end Go.Proofs.YtfjenamomipmdaaDoor


/- Opcode: the reader. -/
set_option linter.unusedSimpArgs false
set_option linter.unusedVariables false
namespace Go.Proofs.YtfjenamomipmdaaDoor
open Go Go.RowKit Go.Proofs Go.Trc Go.Sx
/-- Bytes that are left, and whether something was not there. -/
abbrev RS := List UInt8 × Bool
def takenV {α : Type} (tk : List UInt8 → α × List UInt8 × Bool) (s : RS) : α × RS := ((tk s.1).1, ((tk s.1).2.1, s.2 || !(tk s.1).2.2))
def Rdr (w : World) (B g : Nat) (T : TypeId) (s : RS) : Prop := B ≤ g ∧ ∃ A n c, w.heap[g]? = some (.cells #[.slice A n c, .bool s.2] T (0, 0)) ∧ n ≤ 1000000 ∧ Sl w (fun b => b < B) (.slice A n c) s.1
theorem Rdr.lt {w : World} {B g : Nat} {T : TypeId} {s : RS} (h : Rdr w B g T s) : g < w.heap.size := by obtain ⟨_, _, _, _, hg, _⟩ := h; exact heap_lt hg
theorem Rdr.below {w w' : World} {B g : Nat} {T : TypeId} {s : RS} (h : Rdr w B g T s) (b : Below w.heap.size w w') : Rdr w' B g T s := by
  obtain ⟨hB, A, n, c, hg, hn, hs⟩ := h
  exact ⟨hB, A, n, c, (b.block g (heap_lt hg)).trans hg, hn, hs.below b⟩
theorem Rdr.past {w w' : World} {B g : Nat} {T : TypeId} {s : RS} {G : List Nat} (h : Rdr w B g T s) (q : Fr (fun b => b ∈ G) w w') (hG : ∀ x ∈ G, x ≠ g ∧ B ≤ x) : Rdr w' B g T s := by
  obtain ⟨hB, A, n, c, hg, hn, hs⟩ := h
  exact ⟨hB, A, n, c, (q.block g (heap_lt hg) fun hm => (hG g hm).1 rfl).trans hg, hn, hs.past q fun x hx => by have := (hG x hx).2; omega⟩
def TR {α : Type} (w : World) (B g : Nat) (T : TypeId) (enc : α → Value) (x : α × RS) (e : Ending) (w' : World) : Prop := e = .returned (enc x.1) ∧ Rdr w' B g T x.2 ∧ Fr (fun b => b ∈ [g]) w w'
theorem fr_trans {G : List Nat} {a b c : World} (f : Fr (fun k => k ∈ G) a b) (k : Fr (fun k => k ∈ G) b c) : Fr (fun k => k ∈ G) a c := f.trans k (fun _ _ h => h) (fun _ _ h => h)
theorem tr_ok {w0 w w' : World} {g : Nat} {G : List Nat} (f : Fr (fun b => b ∈ [g]) w0 w) (q : Fr (fun b => b ∈ [g]) w w') (hG : ∀ x ∈ G, x ≠ g) : Fr (fun b => b ∈ [g]) w0 w' ∧ Mild G w w' :=
  ⟨fr_trans f q, q.size, fun x hx hl => q.block x hl fun hm => hG x hx (by simpa using hm)⟩
/-- A function value that takes. -/
def Taker {α : Type} (w : World) (B : Nat) (v : Value) (enc : α → Value) (tk : List UInt8 → α × List UInt8 × Bool) : Prop :=
  (∀ ys, (tk ys).2.1.length ≤ ys.length) ∧ ∀ w1 xs A n c, Below w.heap.size w w1 → Sl w1 (fun b => b < B) (.slice A n c) xs → n ≤ 1000000 →
    ∃ f ar, (do Go.invoke (← Deferred.ofValue v #[.slice A n c]).target (← Deferred.ofValue v #[.slice A n c]).args : Sem Next).run Tryd.prog w1 = .ok (.enter f ar) w1 ∧ Calls Tryd.prog f ar w1 (TakeR w1 (fun b => b < B) enc (tk xs))
theorem Taker.below {α : Type} {w w' : World} {B : Nat} {v : Value} {enc : α → Value} {tk : List UInt8 → α × List UInt8 × Bool} (h : Taker w B v enc tk) (b : Below w.heap.size w w') : Taker w' B v enc tk :=
  ⟨h.1, fun w1 xs A n c b1 => h.2 w1 xs A n c (b.trans (b1.mono b.size))⟩
/-- The reader's two cells are stored. -/
theorem rdr_store {w : World} {B g n c : Nat} {T : TypeId} {A : Option Addr} {C0 C1 : Value} {ys : List UInt8} (hB : B ≤ g) (hg : w.heap[g]? = some (.cells #[C0, C1] T (0, 0))) (hs : Sl w (fun b => b < B) (.slice A n c) ys) (hn : n ≤ 1000000) (bad : Bool) :
    ∃ w2, (Instr.storeAt 22 (.pointer (some ⟨g, 0, none⟩)) (.slice A n c)).run Tryd.prog w = .ok () w2 ∧ w2.heap[g]? = some (.cells #[.slice A n c, C1] T (0, 0)) ∧ Fr (fun b => b ∈ [g]) w w2 ∧
      ∃ w3, (Instr.storeAt 4 (.pointer (some ⟨g, 1, none⟩)) (.bool bad)).run Tryd.prog w2 = .ok () w3 ∧ Fr (fun b => b ∈ [g]) w2 w3 ∧ Rdr w3 B g T (ys, bad) := by
  obtain ⟨w2, hr2, hg2, gr2⟩ := store_row (P := Tryd.prog) (w := w) 22 (by kernel_rfl) (v := .slice A n c) (o := 0) hg (by simp) rfl rfl
  have hg2 : w2.heap[g]? = some (.cells #[.slice A n c, C1] T (0, 0)) := hg2
  obtain ⟨w3, hr3, hg3, gr3⟩ := store_row (P := Tryd.prog) (w := w2) 4 (by kernel_rfl) (v := .bool bad) (o := 1) hg2 (by simp) rfl rfl
  have f2 := fr_of_grown gr2
  have f3 := fr_of_grown gr3
  exact ⟨w2, hr2, hg2, f2, w3, hr3, f3, hB, A, n, c, hg3, hn, hs.past (fr_trans f2 f3) fun x hx => by simp only [List.mem_singleton] at hx; omega⟩
set_option maxHeartbeats 1000000 in
theorem takenInt_c {w : World} {B g : Nat} {s : RS} (h : Rdr w B g 88 s) (v : Value) (tk : List UInt8 → Int × List UInt8 × Bool) (hv : Taker w B v encI tk) :
    Calls Tryd.prog 45 #[.pointer (some ⟨g, 0, none⟩), v] w (TR w B g 88 encI (takenV tk s)) := by
  obtain ⟨hB, A, n, c, hg, hn, hs⟩ := h
  refine takenInt_sx _ (fun b => b ∈ [g]) w _ v ⟨g, 0, rfl, A, n, c, cells_row hg rfl, ?_⟩
  obtain ⟨f, ar, hi, hc⟩ := hv.2 w s.1 A n c (Below.refl _ _) hs hn
  have ht := hv.1 s.1
  refine ⟨f, ar, hi, hc.mono ?_⟩
  rintro e w1 ⟨A8, n9, c10, rfl, s1, b1⟩
  have hg1 := (b1.block g (heap_lt hg)).trans hg
  have s1 := s1.below b1
  have f1 : Fr (fun b => b ∈ [g]) w w1 := (Fr.refl _ _).step b1
  refine ⟨_, A8, n9, c10, _, rfl, ok_ret b1 (Fr.refl _ _), g, 0, rfl, s.2, cells_row hg1 rfl, fun hb => ?_, fun hb => ?_⟩
  · skip
    -- the answer is told, and both cells stored
    obtain ⟨w2, hr2, hg2, f2, w3, hr3, f3, r3⟩ := rdr_store hB hg1 s1 (by have := s1.len; have := ht; have := hs.len; omega) true
    refine ⟨g, 0, rfl, w2, hr2, tr_ok f1 f2 (by simp), g, 0, rfl, w3, hr3, tr_ok (fr_trans f1 f2) f3 (by simp), rfl, ?_, fr_trans (fr_trans f1 f2) f3⟩
    show Rdr w3 B g _ ((tk s.1).2.1, s.2 || !(tk s.1).2.2)
    rw [hb]; exact r3
  · skip
    -- the answer is told, and both cells stored
    obtain ⟨w2, hr2, hg2, f2, w3, hr3, f3, r3⟩ := rdr_store hB hg1 s1 (by have := s1.len; have := ht; have := hs.len; omega) (!(tk s.1).2.2)
    refine ⟨g, 0, rfl, w2, hr2, tr_ok f1 f2 (by simp), g, 0, rfl, w3, hr3, tr_ok (fr_trans f1 f2) f3 (by simp), rfl, ?_, fr_trans (fr_trans f1 f2) f3⟩
    show Rdr w3 B g _ ((tk s.1).2.1, s.2 || !(tk s.1).2.2)
    rw [hb]; exact r3
set_option maxHeartbeats 1000000 in
theorem takenStr_c {w : World} {B g : Nat} {s : RS} (h : Rdr w B g 88 s) (v : Value) (tk : List UInt8 → ByteArray × List UInt8 × Bool) (hv : Taker w B v encS tk) :
    Calls Tryd.prog 73 #[.pointer (some ⟨g, 0, none⟩), v] w (TR w B g 88 encS (takenV tk s)) := by
  obtain ⟨hB, A, n, c, hg, hn, hs⟩ := h
  refine takenStr_sx _ (fun b => b ∈ [g]) w _ v ⟨g, 0, rfl, A, n, c, cells_row hg rfl, ?_⟩
  obtain ⟨f, ar, hi, hc⟩ := hv.2 w s.1 A n c (Below.refl _ _) hs hn
  have ht := hv.1 s.1
  refine ⟨f, ar, hi, hc.mono ?_⟩
  rintro e w1 ⟨A8, n9, c10, rfl, s1, b1⟩
  have hg1 := (b1.block g (heap_lt hg)).trans hg
  have s1 := s1.below b1
  have f1 : Fr (fun b => b ∈ [g]) w w1 := (Fr.refl _ _).step b1
  refine ⟨_, A8, n9, c10, _, rfl, ok_ret b1 (Fr.refl _ _), g, 0, rfl, s.2, cells_row hg1 rfl, fun hb => ?_, fun hb => ?_⟩
  · skip
    -- the answer is told, and both cells stored
    obtain ⟨w2, hr2, hg2, f2, w3, hr3, f3, r3⟩ := rdr_store hB hg1 s1 (by have := s1.len; have := ht; have := hs.len; omega) true
    refine ⟨g, 0, rfl, w2, hr2, tr_ok f1 f2 (by simp), g, 0, rfl, w3, hr3, tr_ok (fr_trans f1 f2) f3 (by simp), rfl, ?_, fr_trans (fr_trans f1 f2) f3⟩
    show Rdr w3 B g _ ((tk s.1).2.1, s.2 || !(tk s.1).2.2)
    rw [hb]; exact r3
  · skip
    -- the answer is told, and both cells stored
    obtain ⟨w2, hr2, hg2, f2, w3, hr3, f3, r3⟩ := rdr_store hB hg1 s1 (by have := s1.len; have := ht; have := hs.len; omega) (!(tk s.1).2.2)
    refine ⟨g, 0, rfl, w2, hr2, tr_ok f1 f2 (by simp), g, 0, rfl, w3, hr3, tr_ok (fr_trans f1 f2) f3 (by simp), rfl, ?_, fr_trans (fr_trans f1 f2) f3⟩
    show Rdr w3 B g _ ((tk s.1).2.1, s.2 || !(tk s.1).2.2)
    rw [hb]; exact r3
set_option maxHeartbeats 1000000 in
theorem takenID_c {w : World} {B g : Nat} {s : RS} (h : Rdr w B g 88 s) (v : Value) (tk : List UInt8 → (Int × Int) × List UInt8 × Bool) (hv : Taker w B v encP tk) :
    Calls Tryd.prog 98 #[.pointer (some ⟨g, 0, none⟩), v] w (TR w B g 88 encP (takenV tk s)) := by
  have lg := h.lt
  refine takenID_sx _ (fun b => b ∈ [g]) w _ v ?_
  intro g2 hg2
  refine ⟨g, 0, rfl, fun w1 f1 b1 lo2 t2 => ?_⟩
  obtain ⟨hB, A, n, c, hg, hn, hs⟩ := h.below b1
  obtain ⟨f, ar, hi, hc⟩ := hv.2 w1 s.1 A n c b1 hs hn
  have ht := hv.1 s.1
  refine ⟨A, n, c, cells_row hg rfl, f, ar, hi, hc.mono ?_⟩
  rintro e w2 ⟨A8, n9, c10, rfl, s1, b2⟩
  refine ⟨_, _, A8, n9, c10, _, rfl, ok_ret b2 f1, fun g14 hg14 => ⟨g, 0, rfl, fun w3 f3' b3 lo14 t14 => ?_⟩⟩
  have b23 := b2.trans (b3.mono b2.size)
  have hg1 := (b23.block g (heap_lt hg)).trans hg
  have s1 := s1.below b23
  refine ⟨s.2, cells_row hg1 rfl, fun hb => ?_, fun hb => ?_⟩
  · obtain ⟨w4, hr2, hg2', f2, w5, hr3, f3, r3⟩ := rdr_store hB hg1 s1 (by have := s1.len; have := ht; have := hs.len; omega) true
    refine ⟨g, 0, rfl, w4, hr2, tr_ok f3' f2 (by simp; omega), g, 0, rfl, w5, hr3, tr_ok (fr_trans f3' f2) f3 (by simp; omega), fun w6 f6 q6 => ⟨rfl, ?_, f6⟩⟩
    show Rdr w6 B g _ ((tk s.1).2.1, s.2 || !(tk s.1).2.2)
    rw [hb]; exact r3.past q6 (by simp; omega)
  · obtain ⟨w4, hr2, hg2', f2, w5, hr3, f3, r3⟩ := rdr_store hB hg1 s1 (by have := s1.len; have := ht; have := hs.len; omega) (!(tk s.1).2.2)
    refine ⟨g, 0, rfl, w4, hr2, tr_ok f3' f2 (by simp; omega), g, 0, rfl, w5, hr3, tr_ok (fr_trans f3' f2) f3 (by simp; omega), fun w6 f6 q6 => ⟨rfl, ?_, f6⟩⟩
    show Rdr w6 B g _ ((tk s.1).2.1, s.2 || !(tk s.1).2.2)
    rw [hb]; exact r3.past q6 (by simp; omega)
theorem identV_len (xs : List UInt8) : (identV xs).2.1.length ≤ xs.length := by
  unfold identV
  split
  · split <;> simp; omega
  · exact Nat.le_refl _
theorem countV_len (xs : List UInt8) : (countV xs).2.1.length ≤ xs.length := by
  unfold countV
  split
  · split <;> simp; omega
  · exact Nat.le_refl _
theorem textV_len (xs : List UInt8) : (textV xs).2.1.length ≤ xs.length := countV_len xs
theorem numV_len (xs : List UInt8) : (numV xs).2.1.length ≤ xs.length := by unfold numV; split <;> simp
theorem uptoV_len (m : Nat) (xs : List UInt8) : (uptoV m xs).2.1.length ≤ xs.length := by
  unfold uptoV
  split
  · split <;> simp
  · exact Nat.le_refl _
theorem app_nil1 (v : Value) : (#[v] : Array Value) ++ #[] = #[v] := rfl
theorem taker_id (w : World) (B : Nat) : Taker w B (.func (.func 99) #[] #[]) encP identV :=
  ⟨identV_len, fun w1 xs A n c _ hs _ => ⟨_, _, callv_ok (by kernel_rfl) #[] _ _, identTake_c hs⟩⟩
theorem taker_text (w : World) (B : Nat) : Taker w B (.func (.func 74) #[] #[]) encS textV :=
  ⟨textV_len, fun w1 xs A n c _ hs hn => ⟨_, _, callv_ok (by kernel_rfl) #[] _ _, takeText_c hs hn⟩⟩
theorem taker_num (w : World) (B : Nat) : Taker w B (.func (.func 51) #[] #[]) encI numV :=
  ⟨numV_len, fun w1 xs A n c _ hs _ => ⟨_, _, callv_ok (by kernel_rfl) #[] _ _, takeNum_c hs⟩⟩
theorem taker_upto {w : World} {g m : Nat} (B : Nat) (hg : w.heap[g]? = some (.cells #[.int .u8 (m : Int)] 5 (0, 0))) : Taker w B (uptoF g) encI (uptoV m) :=
  ⟨uptoV_len m, fun w1 xs A n c b1 hs _ => ⟨_, _, callv_ok (by kernel_rfl) _ _ _, upto1_c hs ((b1.block g (heap_lt hg)).trans hg)⟩⟩
def idR (s : RS) : (Int × Int) × RS := takenV identV s
abbrev Crn := Int × Int × Int × Int × Int
def encC (x : Crn) : Value := .agg #[.int .i64 x.1, .int .i64 x.2.1, .int .i64 x.2.2.1, .int .i64 x.2.2.2.1, .int .i64 x.2.2.2.2]
def encO (x : OpV) : Value := .agg x.cells
def cornK (v : Int × Int) (n : Int × RS) : Crn × RS := if 0 < n.1 then ((v.1, v.2, (idR n.2).1.1, (idR n.2).1.2, n.1 - 1), (idR n.2).2) else ((v.1, v.2, 0, 0, 0), n.2)
def cornR (s : RS) : Crn × RS := cornK (idR s).1 (takenV (uptoV 2) (idR s).2)
theorem rid_c {w : World} {B g : Nat} {s : RS} (h : Rdr w B g 88 s) : Calls Tryd.prog 71 #[.pointer (some ⟨g, 0, none⟩)] w (TR w B g 88 encP (idR s)) := by
  have lg := h.lt
  have hB := h.1
  refine rid_sx _ (fun b => b ∈ [g]) w _ ?_
  intro g1 hg1 w1 f1 b1 lo1 t1
  refine (takenID_c (h.below b1) _ _ (taker_id w1 B)).mono ?_
  rintro e w2 ⟨rfl, r2, q2⟩
  exact ⟨_, _, rfl, tr_ok f1 q2 (by simp; omega), fun w3 f3 q3 => ⟨rfl, r2.past q3 (by simp; omega), f3⟩⟩
theorem upto_val (m : Nat) (xs : List UInt8) : 0 ≤ (uptoV m xs).1 ∧ (uptoV m xs).1 ≤ m := by
  unfold uptoV
  split
  · split <;> simp; omega
  · simp
/-- A byte of at most m. -/
theorem take_upto {w : World} {B g g1 m : Nat} {s : RS} (h : Rdr w B g 88 s) (hg : w.heap[g1]? = some (.cells #[.int .u8 (m : Int)] 5 (0, 0))) :
    Calls Tryd.prog 45 #[.pointer (some ⟨g, 0, none⟩), uptoF g1] w (TR w B g 88 encI (takenV (uptoV m) s)) := takenInt_c h _ _ (taker_upto B hg)
set_option maxHeartbeats 1000000 in
theorem rcorner_c {w : World} {B g : Nat} {s : RS} (h : Rdr w B g 88 s) : Calls Tryd.prog 72 #[.pointer (some ⟨g, 0, none⟩)] w (TR w B g 88 encC (cornR s)) := by
  have lg := h.lt
  have hB := h.1
  refine rcorner_sx _ (fun b => b ∈ [g]) w _ ?_
  intro g1 hg1 w1 f1 b1 lo1 t1
  refine (rid_c (h.below b1)).mono ?_
  rintro e w2 ⟨rfl, r2, q2⟩
  refine ⟨_, _, rfl, tr_ok f1 q2 (by simp; omega), fun g4 hg4 w3 f3 b3 lo4 t4 => ?_⟩
  refine (upto_c w3 2).mono ?_
  rintro e w4 ⟨g5, lo5, rfl, t5, b4⟩
  refine ⟨_, rfl, ok_ret b4 f3, ?_⟩
  refine (take_upto (m := 2) ((r2.below b3).below b4) t5).mono ?_
  rintro e w5 ⟨rfl, r5, q5⟩
  have f5 := tr_ok (G := []) (f3.step b4) q5 (by simp)
  have hv := upto_val 2 (idR s).2.1
  refine ⟨_, rfl, tr_ok (f3.step b4) q5 (by simp; omega), fun hpos => ?_, fun hz w6 f6 q6 => ?_⟩
  · refine (rid_c r5).mono ?_
    rintro e w6 ⟨rfl, r6, q6⟩
    refine ⟨_, _, rfl, tr_ok f5.1 q6 (by simp; omega), fun w7 f7 q7 => ?_⟩
    have hpos : 0 < (takenV (uptoV 2) (idR s).2).1 := hpos
    have hv : 0 ≤ (takenV (uptoV 2) (idR s).2).1 ∧ (takenV (uptoV 2) (idR s).2).1 ≤ 2 := hv
    rw [wrap_in (by omega)]
    unfold cornR cornK; rw [if_pos hpos]
    exact ⟨rfl, r6.past q7 (by simp; omega), f7⟩
  · have hz : ¬ 0 < (takenV (uptoV 2) (idR s).2).1 := by have : (takenV (uptoV 2) (idR s).2).1 ≤ 0 := hz; omega
    unfold cornR cornK; rw [if_neg hz]
    exact ⟨rfl, r5.past q6 (by simp; omega), f6⟩
end Go.Proofs.YtfjenamomipmdaaDoor


/- Opcode: the reader takes an operation, an edit. -/
set_option linter.unusedSimpArgs false
set_option linter.unusedVariables false
namespace Go.Proofs.YtfjenamomipmdaaDoor
open Go Go.RowKit Go.Proofs Go.Trc Go.Sx
def opK3 (k : Int) (i : Int × Int) (a b : Crn × RS) : OpV × RS := ({ OpV.zero with kd := k, s := i.1, n := i.2, a1 := a.1.1, a2 := a.1.2.1, a3 := a.1.2.2.1, a4 := a.1.2.2.2.1, a5 := a.1.2.2.2.2, b1 := b.1.1, b2 := b.1.2.1, b3 := b.1.2.2.1, b4 := b.1.2.2.2.1, b5 := b.1.2.2.2.2 }, b.2)
def opK5 (k : Int) (i : Int × Int) (a b : (Int × Int) × RS) (n : Int × RS) : OpV × RS := ({ OpV.zero with kd := k, s := i.1, n := i.2, s1 := a.1.1, n1 := a.1.2, s2 := b.1.1, n2 := b.1.2, nn := n.1 }, n.2)
def opK6 (k : Int) (i : Int × Int) (a : (Int × Int) × RS) : OpV × RS := ({ OpV.zero with kd := k, s := i.1, n := i.2, s2 := a.1.1, n2 := a.1.2 }, a.2)
def opK7 (k : Int) (i : Int × Int) (f : Int) (t : ByteArray × RS) : OpV × RS := ({ OpV.zero with kd := k, s := i.1, n := i.2, oe := f == 1, tx := t.1 }, t.2)
def opK8 (k : Int) (i : Int × Int) (f : Int) (t : Int × RS) : OpV × RS := ({ OpV.zero with kd := k, s := i.1, n := i.2, oe := f == 1, nn := t.1 }, t.2)
def opK0 (k : Int) (i : Int × Int) (s : RS) : OpV × RS := ({ OpV.zero with kd := k, s := i.1, n := i.2 }, s)
def opK (k : Int) (i : Int × Int) (s : RS) : OpV × RS :=
  if k = 3 then opK3 k i (cornR s) (cornR (cornR s).2)
  else if k = 5 then opK5 k i (idR s) (idR (idR s).2) (takenV (uptoV 3) (idR (idR s).2).2)
  else if k = 6 then opK6 k i (idR s)
  else if k = 7 then opK7 k i (takenV (uptoV 1) s).1 (takenV textV (takenV (uptoV 1) s).2)
  else if k = 8 then opK8 k i (takenV (uptoV 1) s).1 (takenV numV (takenV (uptoV 1) s).2)
  else opK0 k i s
def opR (s : RS) : OpV × RS := opK (takenV (uptoV 8) s).1 (idR (takenV (uptoV 8) s).2).1 (idR (takenV (uptoV 8) s).2).2
set_option maxHeartbeats 4000000 in
theorem rop_c {w : World} {B g : Nat} {s : RS} (h : Rdr w B g 88 s) : Calls Tryd.prog 47 #[.pointer (some ⟨g, 0, none⟩)] w (TR w B g 88 encO (opR s)) := by
  have lg := h.lt
  have hB := h.1
  refine rop_sx _ (fun b => b ∈ [g]) w _ ?_
  intro g1 hg1 w1 f1 b1 lo1 t1
  refine (upto_c w1 8).mono ?_
  rintro e w2 ⟨g0, lo0, rfl, t0, b2⟩
  refine ⟨_, rfl, ok_ret b2 f1, ?_⟩
  refine (take_upto (m := 8) ((h.below b1).below b2) t0).mono ?_
  rintro e w3 ⟨rfl, r3, q3⟩
  have f3 := (tr_ok (G := []) (f1.step b2) q3 (by simp)).1
  refine ⟨_, rfl, tr_ok (f1.step b2) q3 (by simp; omega), fun g4 hg4 w4 f4 b4 lo4 t4 => ?_⟩
  have e0 : opR s = opK (takenV (uptoV 8) s).1 (idR (takenV (uptoV 8) s).2).1 (idR (takenV (uptoV 8) s).2).2 := rfl
  rw [e0]
  generalize takenV (uptoV 8) s = K at r3 ⊢
  refine (rid_c (r3.below b4)).mono ?_
  rintro e w5 ⟨rfl, r5, q5⟩
  have f5 := (tr_ok (G := []) f4 q5 (by simp)).1
  refine ⟨_, _, rfl, tr_ok f4 q5 (by simp; omega), ?_⟩
  generalize idR K.2 = I at r5 ⊢
  refine ⟨fun h3 w6 f6 q6 => ?_, fun h3 => ⟨fun h5 w6 f6 q6 => ?_, fun h5 => ⟨fun h6 w6 f6 q6 => ?_, fun h6 => ⟨fun h7 w6 f6 q6 => ?_, fun h7 => ⟨fun h8 w6 f6 q6 => ?_, fun h8 w6 f6 q6 => ?_⟩⟩⟩⟩⟩
  · have h3 : K.1 = 3 := h3
    have r6 := r5.past q6 (by simp; omega)
    refine (rcorner_c r6).mono ?_
    rintro e w7 ⟨rfl, r7, q7⟩
    refine ⟨_, _, _, _, _, rfl, tr_ok f6 q7 (by simp; omega), fun w8 f8 q8 => ?_⟩
    refine (rcorner_c (r7.past q8 (by simp; omega))).mono ?_
    rintro e w9 ⟨rfl, r9, q9⟩
    refine ⟨_, _, _, _, _, rfl, tr_ok f8 q9 (by simp; omega), fun w10 f10 q10 => ?_⟩
    unfold opK; rw [if_pos h3]
    exact ⟨rfl, r9.past q10 (by simp; omega), f10⟩
  · have h3 : ¬ K.1 = 3 := h3
    have h5 : K.1 = 5 := h5
    refine (rid_c (r5.past q6 (by simp; omega))).mono ?_
    rintro e w7 ⟨rfl, r7, q7⟩
    refine ⟨_, _, rfl, tr_ok f6 q7 (by simp; omega), fun w8 f8 q8 => ?_⟩
    refine (rid_c (r7.past q8 (by simp; omega))).mono ?_
    rintro e w9 ⟨rfl, r9, q9⟩
    refine ⟨_, _, rfl, tr_ok f8 q9 (by simp; omega), fun w10 f10 q10 => ?_⟩
    refine (upto_c w10 3).mono ?_
    rintro e w11 ⟨g5, lo5, rfl, t5, b11⟩
    refine ⟨_, rfl, ok_ret b11 f10, ?_⟩
    refine (take_upto (m := 3) ((r9.past q10 (by simp; omega)).below b11) t5).mono ?_
    rintro e w12 ⟨rfl, r12, q12⟩
    refine ⟨_, rfl, tr_ok (f10.step b11) q12 (by simp; omega), fun w13 f13 q13 => ?_⟩
    unfold opK; rw [if_neg h3, if_pos h5]
    exact ⟨rfl, r12.past q13 (by simp; omega), f13⟩
  · have h3 : ¬ K.1 = 3 := h3
    have h5 : ¬ K.1 = 5 := h5
    have h6 : K.1 = 6 := h6
    refine (rid_c (r5.past q6 (by simp; omega))).mono ?_
    rintro e w7 ⟨rfl, r7, q7⟩
    refine ⟨_, _, rfl, tr_ok f6 q7 (by simp; omega), fun w8 f8 q8 => ?_⟩
    unfold opK; rw [if_neg h3, if_neg h5, if_pos h6]
    exact ⟨rfl, r7.past q8 (by simp; omega), f8⟩
  · have h3 : ¬ K.1 = 3 := h3
    have h5 : ¬ K.1 = 5 := h5
    have h6 : ¬ K.1 = 6 := h6
    have h7 : K.1 = 7 := h7
    refine (upto_c w6 1).mono ?_
    rintro e w7 ⟨g5, lo5, rfl, t5, b7⟩
    refine ⟨_, rfl, ok_ret b7 f6, ?_⟩
    refine (take_upto (m := 1) ((r5.past q6 (by simp; omega)).below b7) t5).mono ?_
    rintro e w8 ⟨rfl, r8, q8⟩
    refine ⟨_, rfl, tr_ok (f6.step b7) q8 (by simp; omega), fun w9 f9 q9 => ?_⟩
    refine (takenStr_c (r8.past q9 (by simp; omega)) _ _ (taker_text w9 B)).mono ?_
    rintro e w10 ⟨rfl, r10, q10⟩
    refine ⟨_, rfl, tr_ok f9 q10 (by simp; omega), fun w11 f11 q11 => ?_⟩
    unfold opK; rw [if_neg h3, if_neg h5, if_neg h6, if_pos h7]
    exact ⟨rfl, r10.past q11 (by simp; omega), f11⟩
  · have h3 : ¬ K.1 = 3 := h3
    have h5 : ¬ K.1 = 5 := h5
    have h6 : ¬ K.1 = 6 := h6
    have h7 : ¬ K.1 = 7 := h7
    have h8 : K.1 = 8 := h8
    refine (upto_c w6 1).mono ?_
    rintro e w7 ⟨g5, lo5, rfl, t5, b7⟩
    refine ⟨_, rfl, ok_ret b7 f6, ?_⟩
    refine (take_upto (m := 1) ((r5.past q6 (by simp; omega)).below b7) t5).mono ?_
    rintro e w8 ⟨rfl, r8, q8⟩
    refine ⟨_, rfl, tr_ok (f6.step b7) q8 (by simp; omega), fun w9 f9 q9 => ?_⟩
    refine (takenInt_c (r8.past q9 (by simp; omega)) _ _ (taker_num w9 B)).mono ?_
    rintro e w10 ⟨rfl, r10, q10⟩
    refine ⟨_, rfl, tr_ok f9 q10 (by simp; omega), fun w11 f11 q11 => ?_⟩
    unfold opK; rw [if_neg h3, if_neg h5, if_neg h6, if_neg h7, if_pos h8]
    exact ⟨rfl, r10.past q11 (by simp; omega), f11⟩
  · have h3 : ¬ K.1 = 3 := h3
    have h5 : ¬ K.1 = 5 := h5
    have h6 : ¬ K.1 = 6 := h6
    have h7 : ¬ K.1 = 7 := h7
    have h8 : ¬ K.1 = 8 := h8
    unfold opK; rw [if_neg h3, if_neg h5, if_neg h6, if_neg h7, if_neg h8]
    exact ⟨rfl, r5.past q6 (by simp; omega), f6⟩
end Go.Proofs.YtfjenamomipmdaaDoor


/- Opcode: Take, Whole. -/
set_option linter.unusedSimpArgs false
set_option linter.unusedVariables false
namespace Go.Proofs.YtfjenamomipmdaaDoor
open Go Go.RowKit Go.Proofs Go.Trc Go.Sx
/-- So many operations, as long as nothing was missed. -/
def runs (f : RS → OpV × RS) : Nat → RS → List OpV × RS
  | 0, s => ([], s)
  | k + 1, s => if s.2 = true then ([], s) else ((f s).1 :: (runs f k (f s).2).1, (runs f k (f s).2).2)
abbrev ES := List OpV × List UInt8 × Int
def takeK (bs : List UInt8) (x : List OpV × RS) : ES := if x.2.2 = true ∨ mayEditV x.1 ≠ 0 then ([], bs, 2) else (x.1, x.2.1, 0)
def takeR (bs : List UInt8) : ES := takeK bs (runs opR (takenV (uptoV 6) (bs, false)).1.toNat (takenV (uptoV 6) (bs, false)).2)
theorem count_size (xs : List UInt8) : (textV xs).1.size ≤ 255 := by
  unfold textV countV
  split
  · rename_i c r
    have := c.toNat_lt
    split
    · show (r.take c.toNat).toArray.size ≤ 255
      rw [List.size_toArray, List.length_take]; omega
    · show (0 : Nat) ≤ 255; decide
  · show (0 : Nat) ≤ 255; decide
theorem numV_rng (xs : List UInt8) : rng (numV xs).1 := by
  unfold numV rng
  split
  · show -9223372036854775808 ≤ (0 : Int) ∧ (0 : Int) ≤ 9223372036854775807; decide
  · show -9223372036854775808 ≤ IntKind.i64.wrap _ ∧ IntKind.i64.wrap _ ≤ 9223372036854775807
    generalize bigV (xs.take 8) = x
    rw [IntKind.wrap_i64]; omega
theorem corn_rng (s : RS) : rng (cornR s).1.2.2.2.2 := by
  have hv := upto_val 2 (idR s).2.1
  have hv : 0 ≤ (takenV (uptoV 2) (idR s).2).1 ∧ (takenV (uptoV 2) (idR s).2).1 ≤ 2 := hv
  unfold cornR cornK
  split
  · show rng ((takenV (uptoV 2) (idR s).2).1 - 1)
    unfold rng; omega
  · show rng 0
    unfold rng; decide
theorem zero_rng : rng 0 := by unfold rng; decide
theorem opK_wf (k : Int) (i : Int × Int) (s : RS) (hk : 0 ≤ k ∧ k ≤ 8) : Fixed.wf (opK k i s).1 := by
  have hkr : rng k := by unfold rng; omega
  have z : (ByteArray.mk #[]).size ≤ maxLen := by decide
  unfold opK
  split
  · exact ⟨⟨hkr, corn_rng _, corn_rng _, zero_rng⟩, z⟩
  · split
    · have hv := upto_val 3 (idR (idR s).2).2.1
      exact ⟨⟨hkr, zero_rng, zero_rng, by show rng (uptoV 3 (idR (idR s).2).2.1).1; unfold rng; omega⟩, z⟩
    · split
      · exact ⟨⟨hkr, zero_rng, zero_rng, zero_rng⟩, z⟩
      · split
        · exact ⟨⟨hkr, zero_rng, zero_rng, zero_rng⟩, Nat.le_trans (count_size (takenV (uptoV 1) s).2.1) (by decide)⟩
        · split
          · exact ⟨⟨hkr, zero_rng, zero_rng, numV_rng _⟩, z⟩
          · exact ⟨⟨hkr, zero_rng, zero_rng, zero_rng⟩, z⟩
theorem opR_wf (s : RS) : Fixed.wf (opR s).1 := opK_wf _ _ _ (upto_val 8 s.1)
/-- A call that takes an edit. -/
def TakeE (w : World) (x : ES) (e : Ending) (w' : World) : Prop :=
  ∃ A n c A' n' c', e = .returned (.tuple #[.agg #[.slice A n c], .slice A' n' c', .int .i64 x.2.2]) ∧ OwnF w' w.heap.size 39 (.slice A n c) x.1 ∧ Sl w' (fun b => b < w.heap.size) (.slice A' n' c') x.2.1 ∧ Below w.heap.size w w'
theorem fr_in {w0 w w' : World} {G : List Nat} (f : Fr (fun b => some b = none) w0 w) (q : Fr (fun b => b ∈ G) w w') (hG : ∀ x ∈ G, w0.heap.size ≤ x) : Fr (fun b => some b = none) w0 w' :=
  ⟨q.os.trans f.os, q.tape.trans f.tape, q.output.trans f.output, Nat.le_trans f.size q.size, fun k hk hn => (q.block k (Nat.lt_of_lt_of_le hk f.size) fun hm => by have := hG k hm; omega).trans (f.block k hk hn)⟩
theorem mild_q {w w' : World} {G H : List Nat} (q : Fr (fun b => b ∈ G) w w') (h : ∀ x ∈ H, x ∉ G) : Mild H w w' := ⟨q.size, fun x hx hl => q.block x hl (h x hx)⟩
/-- A row of one's own, past a call that turns other blocks. -/
theorem Rw.pastG {α : Type} [Rep α] {w0 w w' : World} {e : TypeId} {v : Value} {xs : List α} {G H : List Nat} (h : Rw none w0 w0.heap.size e w v xs G) (q : Fr (fun b => b ∈ H) w w') (hH : ∀ x ∈ H, w0.heap.size ≤ x ∧ v.ownBlock ≠ some x) : Rw none w0 w0.heap.size e w' v xs G := by
  refine ⟨?_, fr_in h.fr q fun x hx => (hH x hx).1, h.blk, fun g hg => Nat.lt_of_lt_of_le (h.names g hg) q.size, h.le⟩
  obtain ⟨cs, ⟨h1, h2⟩, h3, h4⟩ := h.own
  refine ⟨cs, ⟨h1, ?_⟩, h3, ?_⟩
  · rcases h2 with h2 | ⟨g, cap, cur, hv, hb, hg, hr⟩
    · exact .inl h2
    · exact .inr ⟨g, cap, cur, hv, hb, (q.block g (heap_lt hg) fun hm => (hH g hm).2 (by rw [hv]; rfl)).trans hg, hr⟩
  · intro j hj
    exact Rep.mono (fun b hb _ => hb.elim) (h4 j hj)
set_option maxHeartbeats 4000000 in
theorem opcodeTake_c {w : World} {ok : Nat → Prop} {A : Option Addr} {n c : Nat} {xs : List UInt8} (h0 : Sl w ok (.slice A n c) xs) (hl : n ≤ 1000000) :
    Calls Tryd.prog 19 #[.slice A n c] w (TakeE w (takeR xs)) := by
  have h := h0.here
  refine opcodeTake_sx _ (fun b => some b = none) w A n c ?_
  intro g3 hg3 g4 hg4 g5 hg5 w1 f1 b1 lo5 t5 lo4 t4 lo3 t3
  have n54 : g5 ≠ g4 := fun hh => by rw [hh, t4] at t5; cases t5
  have n34 : g3 ≠ g4 := fun hh => by rw [hh, t4] at t3; cases t3
  refine (upto_c w1 6).mono ?_
  rintro e w2 ⟨g0, lo0, rfl, t0, b2⟩
  have f2 := f1.step b2
  refine ⟨_, rfl, ok_ret b2 f1, fun t4' => ?_⟩
  have R2 : Rdr w2 w.heap.size g4 88 (xs, false) := ⟨hg4, A, n, c, t4', hl, h.below (fr_below (fr_none f2))⟩
  refine (take_upto (m := 6) R2 t0).mono ?_
  rintro e w3 ⟨rfl, r3, q3⟩
  have hv : 0 ≤ (takenV (uptoV 6) (xs, false)).1 ∧ (takenV (uptoV 6) (xs, false)).1 ≤ 6 := upto_val 6 xs
  have er : takeR xs = takeK xs (runs opR (takenV (uptoV 6) (xs, false)).1.toNat (takenV (uptoV 6) (xs, false)).2) := rfl
  rw [er]
  generalize takenV (uptoV 6) (xs, false) = K at r3 hv ⊢
  obtain ⟨-, A8, n9, c10, hc3, -, -⟩ := id r3
  have f3 := fr_in f2 q3 (by simp; omega)
  have t5' := (q3.block g5 (Nat.lt_of_lt_of_le (heap_lt t5) b2.size) (by simpa using n54)).trans ((b2.block g5 (heap_lt t5)).trans t5)
  have t3' := (q3.block g3 (Nat.lt_of_lt_of_le (heap_lt t3) b2.size) (by simpa using n34)).trans ((b2.block g3 (heap_lt t3)).trans t3)
  generalize hX : runs opR K.1.toNat K.2 = X
  refine ⟨_, A8, n9, c10, _, rfl, ⟨f3, mild_q q3 (by simp; exact ⟨n54, n34⟩)⟩, hc3, fun i _ _ _ _ A' n' c' w' => ∃ (k : Nat) (l : List OpV) (st : RS), i = (k : Int) ∧ l.length + k ≤ 6 ∧ Rdr w' w.heap.size g4 88 st ∧ Rw none w w.heap.size 39 w' (.slice A' n' c') l [g5, g4, g3] ∧ (l ++ (runs opR k st).1, (runs opR k st).2) = X ∧ (g3 = g5 ∨ ∃ C, w'.heap[g3]? = some (.cells C 25 (0, 0))), fun i _ _ _ _ _ _ _ _ => i.toNat, ?_, ?_⟩
  · refine ⟨K.1.toNat, [], K.2, by show K.1 = _; omega, by simp; omega, r3, Rw.nil (fr_none f3) ?_, by rw [List.nil_append, ← hX], .inr ⟨_, t3'⟩⟩
    intro k hk
    simp only [List.mem_cons, List.not_mem_nil, or_false] at hk
    rcases hk with rfl | rfl | rfl
    · exact heap_lt t5'
    · exact heap_lt hc3
    · exact heap_lt t3'
  rintro _ A13 n14 n15 b16 A17 n18 n19 w4 f4 ⟨k, l, st, rfl, hlen, r4, o4, hX4, h3⟩ u5 u4
  obtain ⟨C3, u3⟩ : ∃ C, w4.heap[g3]? = some (.cells C 25 (0, 0)) := by
    rcases h3 with rfl | h
    · exact ⟨_, u5⟩
    · exact h
  have hb : b16 = st.2 := by
    obtain ⟨-, A0, n0, c0, hc, -, -⟩ := id r4
    rw [u4] at hc
    injection hc with hc
    injection hc with hc
    simp only [Array.mk.injEq, List.cons.injEq, Value.bool.injEq] at hc
    exact hc.2.1
  have hsl : Sl w4 (fun b => b < w.heap.size) (.slice A13 n14 n15) st.1 := by
    obtain ⟨-, A0, n0, c0, hc, -, hs⟩ := id r4
    rw [u4] at hc
    injection hc with hc
    injection hc with hc
    simp only [Array.mk.injEq, List.cons.injEq] at hc
    rw [hc.1]; exact hs
  have g35 : ∀ x ∈ [g3], w.heap.size ≤ x ∧ (Value.slice A17 n18 n19).ownBlock ≠ some x := by
    simp only [List.mem_singleton]; rintro _ rfl; exact ⟨hg3, own_ne' o4.own u3 (by decide)⟩
  have bad : b16 = true → ∀ (w5 : World), Fr (fun b => some b = none) w w5 → k = 0 ∨ 0 < k → TakeE w (takeK xs X) (.returned (.tuple #[.agg #[.slice none 0 0], .slice A n c, .int .i64 2])) w5 := by
    intro hbt w5 f5 _
    have hst : st.2 = true := by rw [← hb]; exact hbt
    have hx2 : X.2.2 = true := by
      rw [← hX4]
      cases k with
      | zero => exact hst
      | succ k => simp only [runs]; rw [if_pos hst]; exact hst
    unfold takeK; rw [if_pos (.inl hx2)]
    exact ⟨none, 0, 0, A, n, c, rfl, OwnF.nil _ _ _, h.below (fr_below (fr_none f5)), fr_below (fr_none f5)⟩
  refine ⟨fun hpos => ⟨fun hbf => ?_, fun hbt w5 f5 q5 => bad hbt w5 f5 (by omega)⟩, fun hz => ⟨fun hbt w5 f5 q5 => bad hbt w5 f5 (by omega), fun hbf => ?_⟩⟩
  · have hst : ¬ st.2 = true := by rw [← hb, hbf]; decide
    obtain ⟨k, rfl⟩ : ∃ k', k = k' + 1 := ⟨k - 1, by omega⟩
    refine ⟨[], by simp, fun w5 f5 b5 u4' => ?_⟩
    refine (rop_c (r4.below b5)).mono ?_
    rintro e w6 ⟨rfl, r6, q6⟩
    obtain ⟨-, A41, n42, c43, hc6, -, -⟩ := id r6
    have o5 := o4.below b5
    have f6 := fr_in f5 q6 (by simp; omega)
    have u55 := (b5.block g5 (heap_lt u5)).trans u5
    have u35 := (b5.block g3 (heap_lt u3)).trans u3
    refine ⟨_, _, _, _, _, _, _, _, _, _, _, _, _, _, _, _, _, _, _, _, A41, n42, c43, _, rfl, ⟨f6, mild_q q6 (by simp; exact ⟨n54, n34⟩)⟩, fun j hj hn => q6.block j (Nat.lt_of_lt_of_le hj b5.size) (by simpa using hn), hc6, ?_⟩
    intro g45 hg45 w7 f7 b7 lo45 t45
    have ow : ∀ x ∈ [g4], w.heap.size ≤ x ∧ (Value.slice A17 n18 n19).ownBlock ≠ some x := by
      simp only [List.mem_singleton]; rintro _ rfl; exact ⟨hg4, own_ne' o4.own u4 (by decide)⟩
    have o7 := (Rw.pastG o5 q6 ow).on b7 [g45] (by simp only [List.mem_singleton]; rintro _ rfl; exact ⟨lo45, heap_lt t45⟩)
    obtain ⟨w8, A46, n47, c48, hr8, m8, o8⟩ := o7.append 23 23 _ 168 Tryd.underlying23 infoOp rfl (arg_cells [(opR st).1] 1 rfl t45 (by decide) (by simp only [List.mem_singleton]; rintro _ rfl; exact opR_wf st)) (by simp; omega) (by simp; omega)
    have u56 := (q6.block g5 (heap_lt u55) (by simpa using n54)).trans u55
    have u36 := (q6.block g3 (heap_lt u35) (by simpa using n34)).trans u35
    have u57 := (b7.block g5 (heap_lt u56)).trans u56
    have u37 := (b7.block g3 (heap_lt u36)).trans u36
    have u58 := (m8.2.2 g5 (by simp) (heap_lt u57)).trans u57
    have u38 := (m8.2.2 g3 (by simp) (heap_lt u37)).trans u37
    have r7 := r6.below b7
    refine ⟨w8, A46, n47, c48, hr8, m8, fun w9 f9 q9 => ⟨⟨k, l ++ [(opR st).1], (opR st).2, by rw [wrap_in (by omega)]; omega, by simp; omega, ?_, ?_, ?_, ?_⟩, by dsimp only; rw [wrap_in (by omega)]; omega⟩⟩
    · obtain ⟨hB7, A0, n0, c0, hc, hn0, hs0⟩ := r7
      have hc8 := (m8.2.2 g4 (by simp) (heap_lt hc)).trans hc
      exact ⟨hB7, A0, n0, c0, (q9.block g4 (heap_lt hc8) (by simp; exact fun hh => n54 hh.symm)).trans hc8, hn0, hs0.mono fun b hbB _ => ⟨hbB, (f9.block b hbB (fun hh => by cases hh)).trans (f7.block b hbB (fun hh => by cases hh)).symm⟩⟩
    · exact (Rw.past o8 q9 hg5 (own_ne' o8.own u58 (by decide))).less' (by intro g hg; simp at hg ⊢; omega)
    · rw [← hX4]; simp only [runs]; rw [if_neg hst]; simp
    · by_cases h35 : g3 = g5
      · exact .inl h35
      · exact .inr ⟨C3, (q9.block g3 (heap_lt u38) (by simpa using h35)).trans u38⟩
  · obtain rfl : k = 0 := by omega
    have hst : st.2 = false := by rw [← hb]; exact hbf
    have hXe : X = (l, st) := by rw [← hX4]; simp [runs]
    refine (mayEdit_c w4 _ A17 n18 n19 l o4.own.sl).mono ?_
    rintro e w5 ⟨rfl, b5⟩
    have o5 := o4.below b5
    refine ⟨_, rfl, ok_ret b5 f4, fun hne w6 f6 q6 => ?_, fun he => ⟨[], by simp, fun w6 f6 q6 => ?_⟩⟩
    · unfold takeK; rw [hXe, if_pos (.inr hne)]
      exact ⟨none, 0, 0, A, n, c, rfl, OwnF.nil _ _ _, h.below (fr_below (fr_none f6)), fr_below (fr_none f6)⟩
    · have hne : ¬ ((l, st).2.2 = true ∨ mayEditV (l, st).1 ≠ 0) := by
        rintro (h1 | h1)
        · have h1 : st.2 = true := h1
          rw [hst] at h1; cases h1
        · exact h1 he
      unfold takeK; rw [hXe, if_neg hne]
      have s5 := hsl.below b5
      exact ⟨A17, n18, n19, A13, n14, n15, rfl, (Rw.pastG o5 q6 g35).own, s5.past q6 (by simp; omega), fr_below (fr_none f6)⟩
end Go.Proofs.YtfjenamomipmdaaDoor
