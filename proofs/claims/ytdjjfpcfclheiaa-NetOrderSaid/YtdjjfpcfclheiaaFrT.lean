/- Frames: the law FrameSums. -/
import Derived.Test.YtdjjfpcfclheiaaFrE
import Derived.Test.YtdjjfpcfclheiaaCrcL
set_option linter.unusedSimpArgs false
set_option linter.unusedVariables false
namespace Go.Proofs.Ytdjjfpcfclheiaa.Frm
open Go Go.RowKit Go.Proofs Go.Trc Go.Sx
set_option maxRecDepth 10000

theorem run_min4 {P : Program} (w : World) (ts : Array TypeId) (t : TypeId) (a b c d : Int) :
    (Builtin.min_ ts t #[.int .i64 a, .int .i64 b, .int .i64 c, .int .i64 d]).run P w = .ok (.int .i64 (min (min (min a b) c) d)) w := by
  have e : ∀ x y : Int, (if y < x then y else x) = min x y := fun x y => by rw [Int.min_def]; split <;> split <;> omega
  simp [Builtin.min_, Builtin.min2, e]
theorem u8w {m : Nat} (h : m < 256) : IntKind.u8.wrap (m : Int) = m := by simp [IntKind.wrap, IntKind.bits, IntKind.signed]; omega
theorem bits8_xor (x y : UInt8) : bits .xor .u8 (x.toNat : Int) (y.toNat : Int) = ((x ^^^ y).toNat : Int) := by
  show IntKind.u8.wrap ((BitVec.ofInt 8 (x.toNat : Int) ^^^ BitVec.ofInt 8 (y.toNat : Int)).toNat : Int) = _
  have h : ∀ z : UInt8, BitVec.ofInt 8 (z.toNat : Int) = z.toBitVec := fun z => by rw [BitVec.ofInt_natCast]; show BitVec.ofNat 8 z.toBitVec.toNat = z.toBitVec; simp
  rw [h, h, ← UInt8.toBitVec_xor]
  exact u8w (x ^^^ y).toNat_lt
theorem Rw.less {S0 : Option Nat} {w0 w : World} {base : Nat} {e : TypeId} {v : Value} {xs : List UInt8} {G G' : List Nat} (h : Rw S0 w0 base e w v xs G) (hs : ∀ g ∈ G', g ∈ G) : Rw S0 w0 base e w v xs G' :=
  ⟨h.own, h.fr, fun k hk => ⟨(h.blk k hk).1, fun hm => (h.blk k hk).2 (hs k hm)⟩, fun g hg => h.names g (hs g hg), h.le⟩
theorem nz_take (ys : List UInt8) (i : Nat) (hi : i < ys.length) : nz (ys.take (i + 1)) = nz (ys.take i) + if ys[i] = 0 then 0 else 1 := by
  unfold nz
  rw [List.take_succ_eq_append_getElem hi, List.filter_append, List.length_append]
  congr 1
  by_cases h : ys[i] = 0 <;> simp [h]
theorem nz_le (ys : List UInt8) : nz ys ≤ ys.length := List.length_filter_le _ _
theorem zip_take (xs ys : List UInt8) (i : Nat) (h1 : i < xs.length) (h2 : i < ys.length) : List.zipWith (· ^^^ ·) (xs.take (i + 1)) (ys.take (i + 1)) = List.zipWith (· ^^^ ·) (xs.take i) (ys.take i) ++ [xs[i] ^^^ ys[i]] := by
  rw [List.take_succ_eq_append_getElem h1, List.take_succ_eq_append_getElem h2, List.zipWith_append (by simp; omega)]
  rfl
theorem elem_at {w : World} {ok : Nat → Prop} {b o n c : Nat} {xs : List UInt8} (h : Sl w ok (.slice (some ⟨b, o, none⟩) n c) xs) (i : Nat) (hi : i < xs.length) : CellsAt w b (o + i * 1 + 0) [.int .u8 (xs[i].toNat : Int)] := by
  obtain ⟨b', o', e1, -, cs, hcs, hat⟩ := h.elem i hi
  injection e1 with e1; injection e1 with e1 e2; subst e1; subst e2
  have : cs = [.int .u8 (xs[i].toNat : Int)] := hcs
  rw [← this]; exact hat
theorem u8_zero (x : UInt8) : ((x.toNat : Int) = 0) ↔ x = 0 := by
  constructor
  · intro h; apply UInt8.toNat_inj.1; simpa using h
  · intro h; subst h; rfl

end Go.Proofs.Ytdjjfpcfclheiaa.Frm
