/- Frames: what bytes are taken as. -/
import Derived.Test.YtdjjfpcfclheiaaFrF
import Derived.Laws.Cover3
set_option linter.unusedSimpArgs false
set_option linter.unusedVariables false
namespace Go.Proofs.Ytdjjfpcfclheiaa.Frm
open Go Go.RowKit Go.Proofs Go.Trc Go.Sx
set_option maxRecDepth 10000

def num4 (l : List UInt8) : Int := l.foldl (fun x b => x * 256 + (b.toNat : Int)) 0
def fld (bs : List UInt8) (k : Nat) : Int := num4 ((bs.drop k).take 4)
def by_ (bs : List UInt8) (k : Nat) : Int := ((bs.getD k 0).toNat : Int)
def bodyV (bs : List UInt8) : List UInt8 := (bs.take (bs.length - 4)).drop 15
def takeOk (bs : List UInt8) : Bool :=
  decide (19 ≤ bs.length) && decide (mayF (by_ bs 0) (by_ bs 1) (by_ bs 2) (fld bs 3) (fld bs 7) (fld bs 11) (bodyV bs).length = 0) && decide (putV (by_ bs 0) (by_ bs 1) (by_ bs 2) (fld bs 3) (fld bs 7) (fld bs 11) (bodyV bs) = bs)
def takeV (bs : List UInt8) : FrV × Int := if takeOk bs then (⟨by_ bs 0, by_ bs 1, by_ bs 2, fld bs 3, fld bs 7, fld bs 11, bodyV bs⟩, 0) else (⟨0, 0, 0, 0, 0, 0, []⟩, 2)
/-- What Take comes to. -/
def TakeR (w : World) (bs : List UInt8) (en : Ending) (w' : World) : Prop :=
  ∃ A n c, en = .returned (.tuple #[.agg #[.int .i64 (takeV bs).1.kd, .int .i64 (takeV bs).1.fr, .int .i64 (takeV bs).1.to, .int .i64 (takeV bs).1.ep, .int .i64 (takeV bs).1.sq, .int .i64 (takeV bs).1.ak, .slice A n c], .int .i64 (takeV bs).2]) ∧
    Sl w' (fun b => w.heap.size ≤ b) (.slice A n c) (takeV bs).1.bd ∧ Below w.heap.size w w'
theorem TakeR.no {w w' : World} {bs : List UInt8} (h : takeOk bs = false) (b : Below w.heap.size w w') :
    TakeR w bs (.returned (.tuple #[.agg #[.int .i64 (0 : Int), .int .i64 (0 : Int), .int .i64 (0 : Int), .int .i64 (0 : Int), .int .i64 (0 : Int), .int .i64 (0 : Int), .slice none 0 0], .int .i64 (2 : Int)])) w' := by
  refine ⟨none, 0, 0, ?_, ?_, b⟩ <;> (unfold takeV; rw [h]; simp only [Bool.false_eq_true, if_false])
  exact Sl.nil0 _ _
theorem TakeR.yes {w w' : World} {bs : List UInt8} {A : Option Addr} {n c : Nat} (h : takeOk bs = true) (s : Sl w' (fun b => w.heap.size ≤ b) (.slice A n c) (bodyV bs)) (b : Below w.heap.size w w') :
    TakeR w bs (.returned (.tuple #[.agg #[.int .i64 (by_ bs 0), .int .i64 (by_ bs 1), .int .i64 (by_ bs 2), .int .i64 (fld bs 3), .int .i64 (fld bs 7), .int .i64 (fld bs 11), .slice A n c], .int .i64 (0 : Int)])) w' := by
  refine ⟨A, n, c, ?_, ?_, b⟩ <;> (unfold takeV; rw [h]; simp only [if_true])
  exact s

theorem clone_c {w : World} {ok : Nat → Prop} {A : Option Addr} {n c : Nat} {xs : List UInt8} (h : Sl w ok (.slice A n c) xs) (hl : n ≤ 140737488355328) :
    Calls Try.prog 68 #[.slice A n c] w fun e w' => ∃ A' n' c', e = .returned (.slice A' n' c') ∧ Sl w' (fun b => w.heap.size ≤ b) (.slice A' n' c') xs ∧ Below w.heap.size w w' := by
  have hn := h.len
  refine clone_sx _ (fun b => some b = none) w A n c ?_
  have hcmp : ∃ b : Bool, (binOp .eql 45 (.slice A n c) (.slice none 0 0)).run Try.prog w = .ok (.bool b) w ∧ (b = true → A = none) := by
    refine ⟨A.isNone, ?_, fun h => by simpa using h⟩
    simp only [binOp]
    simp [run_equal_slice_nil w _ _ A n c Try.underlying45]
  obtain ⟨b, hb, hnone⟩ := hcmp
  refine ⟨b, hb, fun ht => ⟨none, 0, 0, rfl, ?_, Below.refl _ _⟩, fun _ => ?_⟩
  · obtain ⟨A', c', he, h1, h2, h3, h4⟩ := h
    injection he with e1 e2 e3
    subst e1
    have := h3 (hnone ht)
    obtain rfl : xs = [] := List.eq_nil_of_length_eq_zero (by omega)
    exact Sl.nil0 _ _
  intro g4 hg4 w1 f1 b1 lo4 t4
  have r1 : Rw none w w.heap.size 5 w1 (.slice (some ⟨g4, 0, none⟩) 0 0) ([] : List UInt8) [g4] :=
    ⟨OwnF.bytes [] 0 rfl hg4 t4 (by decide), f1, fun k hk => (by rw [tail_full] at hk; cases hk), fun g hg => (by simp at hg; subst hg; exact heap_lt t4), Nat.le_refl _⟩
  obtain ⟨w2, A2, n2, c2, hr2, m2, r2⟩ := r1.append 45 45 (.int .u8 0) 1 Try.underlying45 (by kernel_rfl) rfl (h.below b1).arg (by simp; omega) (by simp; omega)
  exact ⟨w2, A2, n2, c2, hr2, m2, A2, n2, c2, rfl, r2.own.to fun _ h => h, fr_below (fr_none m2.1)⟩
theorem equal_c {w : World} {ok ok' : Nat → Prop} {A A' : Option Addr} {n c n' c' : Nat} {xs ys : List UInt8} (h : Sl w ok (.slice A n c) xs) (h' : Sl w ok' (.slice A' n' c') ys) :
    Calls Try.prog 69 #[.slice A n c, .slice A' n' c'] w (Ret (.bool (decide (xs = ys))) w) := by
  refine equal_sx _ (fun _ => False) w A n c A' n' c' ⟨_, str_c h, _, str_c h', ret_leaf (Fr.refl _ _) ?_⟩
  rw [str_eq]
theorem or_low {x : Int} {b : UInt8} (h : 0 ≤ x ∧ x < 16777216) : bits .or .i64 (IntKind.i64.wrap (x * 2 ^ 8)) (IntKind.i64.wrap (b.toNat : Int)) = x * 256 + (b.toNat : Int) := by
  obtain ⟨n, rfl⟩ : ∃ n : Nat, x = n := ⟨x.toNat, by omega⟩
  have hb := b.toNat_lt
  rw [show ((n : Int) * 2 ^ 8) = ((n * 256 : Nat) : Int) by norm_cast, wrap_in (by omega), wrap_in (by omega)]
  show IntKind.i64.wrap (((BitVec.ofInt 64 ((n * 256 : Nat) : Int) ||| BitVec.ofInt 64 (b.toNat : Int)).toNat : Nat) : Int) = _
  rw [BitVec.ofInt_natCast, BitVec.ofInt_natCast, BitVec.toNat_or, BitVec.toNat_ofNat, BitVec.toNat_ofNat, Nat.mod_eq_of_lt (by omega), Nat.mod_eq_of_lt (by omega)]
  have : n * 256 ||| b.toNat = n * 256 + b.toNat := by
    have := Nat.shiftLeft_add_eq_or_of_lt (b := b.toNat) (i := 8) (by omega) n
    rw [Nat.shiftLeft_eq] at this
    exact this.symm
  rw [this, wrap_in (by omega)]
  omega

/-- 'xs[k:]', 'xs[k:m]' -/
theorem run_slice_lo {P : Program} {w : World} (t e : TypeId) (i : TypeInfo) (hu : P.underlying t = some (.slice e)) (hi : P.info? e = some i) (A : Option Addr) (n c k : Nat) (hk : k ≤ n) (hc : n ≤ c) :
    (Instr.sliceAt t (.slice A n c) (some (.int .i64 (k : Int))) none none).run P w = .ok (.slice (if c = k then A else A.map (·.add (k * i.size))) (n - k) (c - k)) w := by
  have h0 : (0 : Int) ≤ k := by omega
  have h1 : (k : Int) ≤ n := by omega
  simp [Instr.sliceAt, run_underlying hu, Instr.slice, Instr.sliceBounds, Instr.sliceBound, asIntOf, h0, h1, hk, hc, Go.Sx.run_sizeOf hi]
theorem run_slice_mid {P : Program} {w : World} (t e : TypeId) (i : TypeInfo) (hu : P.underlying t = some (.slice e)) (hi : P.info? e = some i) (A : Option Addr) (n c k m : Nat) (hk : k ≤ m) (hm : m ≤ c) :
    (Instr.sliceAt t (.slice A n c) (some (.int .i64 (k : Int))) (some (.int .i64 (m : Int))) none).run P w = .ok (.slice (if c = k then A else A.map (·.add (k * i.size))) (m - k) (c - k)) w := by
  have h0 : (0 : Int) ≤ k := by omega
  have h1 : (k : Int) ≤ m := by omega
  have h2 : (0 : Int) ≤ m := by omega
  have h3 : (m : Int) ≤ c := by omega
  simp [Instr.sliceAt, run_underlying hu, Instr.slice, Instr.sliceBounds, Instr.sliceBound, asIntOf, h0, h1, h2, h3, hk, hm, Go.Sx.run_sizeOf hi]
end Go.Proofs.Ytdjjfpcfclheiaa.Frm
