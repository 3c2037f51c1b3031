/- Frames: contracts of few, shown, Same; the law FramePuts. -/
import Derived.Test.YtolipmnmaikfcaaFrD
import Derived.Test.YtolipmnmaikfcaaFrL
set_option linter.unusedSimpArgs false
set_option linter.unusedVariables false
namespace Go.Proofs.Ytolipmnmaikfcaa
open Go Go.RowKit Go.Proofs Go.Trc Go.Sx

/-- '[]byte("..")': the row is marked. -/
theorem run_mark {P : Program} {w : World} (t e : TypeId) (ht : P.underlying t = some (.slice e)) (he : P.underlying e = some (.int .u8)) (g n c : Nat) (C : Array Value) (e' : TypeId) (hg : w.heap[g]? = some (.cells C e' (0, 0))) :
    ∃ w', (convert t t (.slice (some ⟨g, 0, none⟩) n c)).run P w = .ok (.slice (some ⟨g, 0, none⟩) n c) w' ∧ w'.heap[g]? = some (.cells C e' (C.size, C.size + 1)) ∧ w.grownBy w' (some g) := by
  refine ⟨w.freeze ⟨g, C.size, none⟩ 1, ?_, ?_, ⟨rfl, rfl, rfl, ?_, fun k hk hne => ?_⟩⟩
  · have hsh : w.shape? g = some (e', C.size) := by unfold World.shape?; rw [hg]
    simp [convert, run_underlying ht, run_underlying he, markStringish, hsh]
  · show (w.heap.modify g _)[g]? = _
    rw [Array.getElem?_modify, if_pos rfl, hg]
    rfl
  · show w.heap.size ≤ (w.heap.modify g _).size
    simp
  · show (w.heap.modify g _)[k]? = _
    rw [Array.getElem?_modify, if_neg (fun h => hne (by rw [h]))]
theorem Sl.row_bytes {w : World} {g : Nat} {e : TypeId} {fr : Nat × Nat} (xs : List UInt8) (n : Nat) (hn : n = xs.length) (hm : n ≤ 9223372036854775807) (hg : w.heap[g]? = some (.cells (xs.map fun x => Value.int .u8 (x.toNat : Int)).toArray e fr)) {ok : Nat → Prop} (hok : ok g) :
    Sl w ok (.slice (some ⟨g, 0, none⟩) n n) xs := by
  subst hn
  refine ⟨_, _, rfl, Nat.le_refl _, hm, fun h => by simp at h, fun _ => ⟨g, 0, rfl, hok, Cells.of_block hg (xs.map fun x => Value.int .u8 (x.toNat : Int)) (fun j hj => by simp) fun j hj => ?_⟩⟩
  show ((List.map (fun x => Value.int .u8 (x.toNat : Int)) xs).drop (j * 1)).take 1 = _
  rw [Nat.mul_one, List.drop_eq_getElem_cons (by simpa using hj)]
  simp

theorem few_c {w : World} {ok : Nat → Prop} {kd fr to ep sq ak : Int} {A : Option Addr} {n c : Nat} {bd : List UInt8} (hbd : Sl w ok (.slice A n c) bd) :
    Calls Try.prog 10 #[.agg #[.int .i64 kd, .int .i64 fr, .int .i64 to, .int .i64 ep, .int .i64 sq, .int .i64 ak, .slice A n c]] w fun e w' =>
      ∃ A' n' c', e = .returned (.agg #[.int .i64 kd, .int .i64 fr, .int .i64 to, .int .i64 ep, .int .i64 sq, .int .i64 ak, .slice A' n' c']) ∧ Sl w ok (.slice A' n' c') (bd.take 16400) ∧ Below w.heap.size w w' := by
  have hn := hbd.len_eq
  refine few_sx _ (fun _ => False) w kd fr to ep sq ak A n c ?_
  intro g9 hg9 g10 hg10
  refine ⟨fun h w1 f1 b1 => ⟨A, 16400, c, ?_, fun w2 f2 _ => ⟨A, 16400, c, rfl, hbd.take 16400 c (by omega) (by omega) (by omega), fr_below f2⟩⟩, fun h w1 f1 b1 => ⟨A, n, c, rfl, ?_, b1⟩⟩
  · have := run_slice_hi (P := Try.prog) (w := w1) 22 5 _ Try.underlying22 rfl A n c 16400 (by omega)
    rw [if_neg (by omega)] at this
    refine (Eq.trans ?_ this).trans ?_
    · rfl
    · obtain ⟨b, o, rfl, _⟩ := hbd.at_ (by omega)
      simp [add_plain]
  · rw [List.take_of_length_le (by omega)]; exact hbd

theorem shown_c (w : World) : Calls Try.prog 9 #[] w (Ret (.bool true) w) := by
  refine shown_sx _ (fun _ => False) w ?_
  refine (put_c (bd := []) (by simp) (Sl.nil0 _ _)).mono ?_
  rintro e w1 ⟨A, n, c, rfl, o1, b1⟩
  have f1 := (Fr.refl (fun _ => False) w).step b1
  refine ⟨A, n, c, _, rfl, ok_below (Fr.refl _ _) b1, ?_⟩
  intro g4 hg4 w2 f2 b2 hlo t4
  have hm : mayF 4 0 1 0 0 0 0 = 0 := by decide
  rw [hm, if_pos rfl] at o1
  have hn : n = 19 := by rw [(o1.to (ok := fun _ => True) fun _ _ => trivial).len, put_len]; rfl
  obtain ⟨w3, hr3, t3, g3⟩ := run_mark (P := Try.prog) (w := w2) 22 5 Try.underlying22 Try.underlying5 g4 9 9 _ _ t4
  have f3 : Fr (fun _ => False) w w3 := grown_fr (B := 0) g3 f2 (fun k hk => by injection hk with hk; omega)
  refine ⟨w3, _, 9, 9, hr3, ⟨f3, mild_nil g3.size⟩, ?_⟩
  refine (sum_c (Sl.row_bytes [49, 50, 51, 52, 53, 54, 55, 56, 57] 9 rfl (by decide) t3 (ok := fun _ => True) trivial)).mono ?_
  rintro e w4 ⟨rfl, b4⟩
  have hs : ((sumV [49, 50, 51, 52, 53, 54, 55, 56, 57]).toNat : Int) = 3421780262 := by decide +kernel
  refine ⟨_, rfl, ok_ret b4 f3, fun _ => ⟨fun _ => ret_leaf (f3.step b4) (by rw [hm]; rfl), fun h => absurd (by rw [hn]; rfl) h⟩, fun h => absurd hs h⟩

theorem Sl.same {w w1 w2 : World} {v : Value} {xs : List UInt8} (h : Sl w1 (fun b => b < w.heap.size) v xs) (f1 : Fr (fun _ => False) w w1) (f2 : Fr (fun _ => False) w w2) : Sl w2 (fun b => b < w.heap.size) v xs :=
  h.mono fun b hb _ => ⟨hb, (f2.block b hb (fun h => h)).trans (f1.block b hb (fun h => h)).symm⟩
theorem Sl.any {w : World} {ok : Nat → Prop} {v : Value} {xs : List UInt8} (h : Sl w ok v xs) : Sl w (fun _ => True) v xs := h.weaken fun _ _ _ => trivial
theorem Sl.kept {w w1 w' : World} {ok : Nat → Prop} {v : Value} {xs : List UInt8} (h : Sl w ok v xs) (b : Below w.heap.size w w1) (k : Keep w.heap.size [] w1 w') : Sl w' ok v xs :=
  h.mono fun b' hb hl => ⟨hb, (k b' hl (by simp)).trans (b.block b' hl)⟩
theorem str_c {w : World} {ok : Nat → Prop} {v : Value} {xs : List UInt8} (h : Sl w ok v xs) : (convert 22 9 v).run Try.prog w = .ok (.string ⟨xs.toArray⟩) w :=
  h.string 22 9 5 Try.underlying22 Try.underlying5 Try.underlying9
/-- What Put laid, on. -/
theorem PutR.sl {w w1 : World} {m : Int} {A : Option Addr} {n c : Nat} {bs : List UInt8} (o : OwnF w1 w.heap.size 5 (.slice A n c) bs) : Sl w1 (fun _ => True) (.slice A n c) bs := o.to fun _ _ => trivial

set_option maxHeartbeats 4000000 in
theorem framePuts_wk {w : World} {kd fr to ep sq ak : Int} {A : Option Addr} {n c : Nat} {bd : List UInt8} (hr : ∀ v ∈ [ep, sq, ak], -9223372036854775808 ≤ v ∧ v ≤ 9223372036854775807) (hbd : Sl w (fun b => b < w.heap.size) (.slice A n c) bd) :
    Calls Try.prog 3 #[.agg #[.int .i64 kd, .int .i64 fr, .int .i64 to, .int .i64 ep, .int .i64 sq, .int .i64 ak, .slice A n c]] w (Ret (.bool true) w) := by
  refine framePuts_sx _ (fun _ => False) w kd fr to ep sq ak A n c ?_
  intro g9 hg9 w1 f1 b1 hlo9 t9
  refine (shown_c w1).mono ?_
  rintro e w2 ⟨rfl, b2⟩
  have f2 := f1.step b2
  refine ⟨_, rfl, ok_ret b2 f1, ?_⟩
  refine (few_c (hbd.below (fr_below f2))).mono ?_
  rintro e w3 ⟨A', n', c', rfl, s3, b3⟩
  have f3 := f2.step b3
  refine ⟨_, _, _, _, _, _, A', n', c', rfl, ok_ret b3 f2, ?_⟩
  intro w4 f4 _
  have s4 := Sl.same s3 f2 f4
  refine (put_c hr (Sl.any s4)).mono ?_
  rintro e w5 ⟨A5, n5, c5, rfl, o5, b5⟩
  have f5 := f4.step b5
  refine ⟨A5, n5, c5, _, rfl, ok_ret b5 f4, ?_⟩
  refine (refPut_c (Sl.any (Sl.same s4 f4 f5))).mono ?_
  rintro e w6 ⟨A6, n6, c6, rfl, o6, b6⟩
  have f6 := f5.step b6
  refine ⟨A6, n6, c6, _, rfl, ok_ret b6 f5, ?_⟩
  refine ⟨fun _ w7 f7 b7 => ?_, fun h => by cases h⟩
  refine (fmay_c w7 kd fr to ep sq ak A' n' c' hr).mono ?_
  rintro e w8 ⟨rfl, b8⟩
  have f8 := f7.step b8
  refine ⟨_, rfl, ok_ret b8 f7, keep_below b8 b7.size, ?_⟩
  refine (refMay_c w8 kd fr to ep sq ak A' n' c').mono ?_
  rintro e w9 ⟨rfl, b9⟩
  have f9 := f8.step b9
  refine ⟨_, rfl, ok_ret b9 f8, keep_below b9 (Nat.le_trans b7.size b8.size), fun _ => ?_, fun h => absurd rfl h⟩
  have b79 : Below w6.heap.size w6 w9 := (b7.trans (b8.mono b7.size)).trans (b9.mono (Nat.le_trans b7.size b8.size))
  have q5 := PutR.sl (m := 0) (o5.below b6)
  have q6 := PutR.sl (m := 0) o6
  refine ⟨_, fun w' k => str_c (Sl.kept q5 b79 k), _, fun w' k => str_c (Sl.kept q6 b79 k), fun _ => ⟨fun _ => ?_, fun h => absurd rfl h⟩, fun h => absurd rfl h⟩
  have s9 := Sl.same s4 f4 f9
  refine (sum_c s9).mono ?_
  rintro e w10 ⟨rfl, b10⟩
  have f10 := f9.step b10
  have n10 : w6.heap.size ≤ w9.heap.size := b79.size
  refine ⟨_, rfl, ok_ret b10 f9, keep_below b10 n10, ?_⟩
  refine (refSum_c (Sl.same s9 f9 f10)).mono ?_
  rintro e w11 ⟨rfl, b11⟩
  exact ⟨_, rfl, ok_ret b11 f10, ret_leaf (f10.step b11) (by simp)⟩
end Go.Proofs.Ytolipmnmaikfcaa
