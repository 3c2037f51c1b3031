/- Frames: contracts of Take. -/
import Derived.Test.YtdjjfpcfclheiaaFrV
import Derived.Test.YtdjjfpcfclheiaaFrT
set_option linter.unusedSimpArgs false
set_option linter.unusedVariables false
namespace Go.Proofs.Ytdjjfpcfclheiaa.Frm
open Go Go.RowKit Go.Proofs Go.Trc Go.Sx
set_option maxRecDepth 10000

theorem fld_eq (bs : List UInt8) (k : Nat) (h : k + 4 ≤ bs.length) : fld bs k = ((((bs[k].toNat : Int) * 256 + (bs[k + 1].toNat : Int)) * 256 + (bs[k + 2].toNat : Int)) * 256 + (bs[k + 3].toNat : Int)) := by
  unfold fld
  rw [List.drop_eq_getElem_cons (by omega), List.drop_eq_getElem_cons (by omega), List.drop_eq_getElem_cons (by omega), List.drop_eq_getElem_cons (by omega)]
  simp only [num4, List.take_succ_cons, List.take_zero, List.foldl_cons, List.foldl_nil, Int.zero_mul, Int.zero_add]
theorem at_wraps {a b d e : Int} (a0 : 0 ≤ a ∧ a < 256) (a1 : 0 ≤ b ∧ b < 256) (a2 : 0 ≤ d ∧ d < 256) (a3 : 0 ≤ e ∧ e < 256) :
    IntKind.i64.wrap (IntKind.i64.wrap (IntKind.i64.wrap (IntKind.i64.wrap (16777216 * a) + IntKind.i64.wrap (65536 * b)) + IntKind.i64.wrap (256 * d)) + e) = ((a * 256 + b) * 256 + d) * 256 + e := by
  rw [wrap_in (x := 16777216 * a) (by omega), wrap_in (x := 65536 * b) (by omega), wrap_in (x := 256 * d) (by omega), wrap_in (x := 16777216 * a + 65536 * b) (by omega), wrap_in (x := 16777216 * a + 65536 * b + 256 * d) (by omega), wrap_in (by omega)]
  omega
theorem at_c {w : World} {ok : Nat → Prop} {A : Option Addr} {n c : Nat} {bs : List UInt8} (h : Sl w ok (.slice A n c) bs) (k : Nat) (hk : k + 4 ≤ bs.length) :
    Calls Try.prog 79 #[.slice A n c, .int .i64 (k : Int)] w (Ret (.int .i64 (fld bs k)) w) := by
  have hl := h.len_eq
  obtain ⟨p, o, rfl, hok⟩ := h.at_ (by omega)
  refine at_sx _ (fun _ => False) w _ n c k ?_
  have e1 : IntKind.i64.wrap ((k : Int) + (1 : Int)) = ((k + 1 : Nat) : Int) := by rw [wrap_in (by omega)]; rfl
  have e2 : IntKind.i64.wrap ((k : Int) + (2 : Int)) = ((k + 2 : Nat) : Int) := by rw [wrap_in (by omega)]; rfl
  have e3 : IntKind.i64.wrap ((k : Int) + (3 : Int)) = ((k + 3 : Nat) : Int) := by rw [wrap_in (by omega)]; rfl
  have hp : p < w.heap.size := Cells.lt hok.2 (by omega)
  refine ⟨by omega, by omega, p, o, rfl, fun w1 f1 b1 => ⟨_, elem_at (h.below b1) k (by omega), ⟨hp, by simp⟩, ?_⟩⟩
  rw [e1, e2, e3]
  refine ⟨by omega, by omega, p, o, rfl, _, elem_at (h.below b1) (k + 1) (by omega), ⟨hp, by simp⟩, by omega, by omega, p, o, rfl, _, elem_at (h.below b1) (k + 2) (by omega), ⟨hp, by simp⟩, by omega, by omega, p, o, rfl, _, elem_at (h.below b1) (k + 3) (by omega), ⟨hp, by simp⟩, ret_leaf f1 ?_⟩
  rw [fld_eq bs k hk]
  have q : ∀ b : UInt8, (0 : Int) ≤ b.toNat ∧ (b.toNat : Int) < 256 := fun b => by have := b.toNat_lt; omega
  have a0 := q bs[k]
  have a1 := q bs[k + 1]
  have a2 := q bs[k + 2]
  have a3 := q bs[k + 3]
  simp only [wrap_in (x := (bs[k].toNat : Int)) (by omega), wrap_in (x := (bs[k + 1].toNat : Int)) (by omega), wrap_in (x := (bs[k + 2].toNat : Int)) (by omega), wrap_in (x := (bs[k + 3].toNat : Int)) (by omega)]
  generalize (bs[k].toNat : Int) = a at *
  generalize (bs[k + 1].toNat : Int) = b at *
  generalize (bs[k + 2].toNat : Int) = d at *
  generalize (bs[k + 3].toNat : Int) = e at *
  congr 1
  exact at_wraps a0 a1 a2 a3

theorem by_rng (bs : List UInt8) (k : Nat) : IntKind.i64.wrap (by_ bs k) = by_ bs k := wrap_in (by unfold by_; have := (bs.getD k 0).toNat_lt; omega)
theorem fld_rng (bs : List UInt8) (k : Nat) (h : k + 4 ≤ bs.length) : -9223372036854775808 ≤ fld bs k ∧ fld bs k ≤ 9223372036854775807 := by
  rw [fld_eq bs k h]
  have q : ∀ b : UInt8, (0 : Int) ≤ b.toNat ∧ (b.toNat : Int) < 256 := fun b => by have := b.toNat_lt; omega
  have a0 := q bs[k]
  have a1 := q bs[k + 1]
  have a2 := q bs[k + 2]
  have a3 := q bs[k + 3]
  omega
set_option maxHeartbeats 2000000 in
theorem refTake_rest {w w8 : World} {A A21 : Option Addr} {n c n22 c23 g3 : Nat} {bs : List UInt8} {G : List Nat} (f8 : Fr (fun _ => False) w w8) (h : Sl w (fun b => b < w.heap.size) (.slice A n c) bs) (h19 : 19 ≤ bs.length)
    (sb : Sl w8 (fun b => w.heap.size ≤ b ∧ b ≠ g3) (.slice A21 n22 c23) (bodyV bs)) :
    Calls Try.prog 72 #[.agg #[.int .i64 (IntKind.i64.wrap (by_ bs 0)), .int .i64 (IntKind.i64.wrap (by_ bs 1)), .int .i64 (IntKind.i64.wrap (by_ bs 2)), .int .i64 (fld bs 3), .int .i64 (fld bs 7), .int .i64 (fld bs 11), .slice A21 n22 c23]] w8 fun r w9 =>
      ∃ A25 : Option Addr, ∃ n26 : Nat, ∃ n27 : Nat, ∃ i28 : Int, r = .returned (.tuple #[.slice A25 n26 n27, .int .i64 i28]) ∧ (Fr (fun _ => False) w w9 ∧ Mild G w8 w9) ∧
      ((¬ i28 = (0 : Int) → (∀ w10 : World, Fr (fun _ => False) w w10 → Fr (fun b => b ∈ [g3]) w9 w10 → TakeR w bs (.returned (.tuple #[.agg #[.int .i64 (0 : Int), .int .i64 (0 : Int), .int .i64 (0 : Int), .int .i64 (0 : Int), .int .i64 (0 : Int), .int .i64 (0 : Int), .slice none 0 0], .int .i64 (2 : Int)])) w10)) ∧
      (i28 = (0 : Int) →
      (∃ s29 : ByteArray, (convert 45 9 (.slice A25 n26 n27)).run Try.prog w9 = .ok (.string s29) w9 ∧
       (∃ s30 : ByteArray, (convert 45 9 (.slice A n c)).run Try.prog w9 = .ok (.string s30) w9 ∧
       ((((s29).toList == (s30).toList) = false → (∀ w10 : World, Fr (fun _ => False) w w10 → Fr (fun b => b ∈ [g3]) w9 w10 → TakeR w bs (.returned (.tuple #[.agg #[.int .i64 (0 : Int), .int .i64 (0 : Int), .int .i64 (0 : Int), .int .i64 (0 : Int), .int .i64 (0 : Int), .int .i64 (0 : Int), .slice none 0 0], .int .i64 (2 : Int)])) w10)) ∧
       (((s29).toList == (s30).toList) = true → (∀ w10 : World, Fr (fun _ => False) w w10 → Fr (fun b => b ∈ [g3]) w9 w10 → TakeR w bs (.returned (.tuple #[.agg #[.int .i64 (IntKind.i64.wrap (by_ bs 0)), .int .i64 (IntKind.i64.wrap (by_ bs 1)), .int .i64 (IntKind.i64.wrap (by_ bs 2)), .int .i64 (fld bs 3), .int .i64 (fld bs 7), .int .i64 (fld bs 11), .slice A21 n22 c23], .int .i64 (0 : Int)])) w10))))))) := by
  obtain rfl := sb.len
  simp only [by_rng]
  refine (refPut_c (Sl.any sb)).mono ?_
  rintro e w9 ⟨A9, n9, c9, rfl, o9, b9⟩
  have f9 := f8.step b9
  refine ⟨A9, n9, c9, _, rfl, ok_ret b9 f8, fun hne w10 f10 _ => TakeR.no ?_ (fr_below f10), fun hm => ⟨_, str_c (OwnF.to o9 (ok := fun _ => True) fun _ _ => trivial), _, str_c (h.below (fr_below f9)), fun hf w10 f10 _ => TakeR.no ?_ (fr_below f10), fun ht w10 f10 q10 => TakeR.yes ?_ ?_ (fr_below f10)⟩⟩
  · unfold takeOk; rw [decide_eq_false hne]; simp
  · rw [if_pos hm, str_eq] at hf; unfold takeOk; rw [hf]; simp
  · rw [if_pos hm, str_eq] at ht; unfold takeOk; rw [ht, decide_eq_true hm, decide_eq_true h19]; rfl
  · exact Sl.mono (ok := fun b => w.heap.size ≤ b ∧ b ≠ g3) (fun b hb hl => ⟨hb.1, q10.block b hl (fun hm => hb.2 (by simpa using hm))⟩) (sb.below b9)

/-- 'append([]byte{}, xs...)' -/
theorem app0 {w : World} {g : Nat} {ok : Nat → Prop} {A : Option Addr} {n c : Nat} {xs : List UInt8} (h : Sl w ok (.slice A n c) xs) (hl : n ≤ 140737488355328) :
    ∃ w' A' n' c', (Builtin.append_ #[45, 45] 45 #[.slice (some ⟨g, 0, none⟩) 0 0, .slice A n c]).run Try.prog w = .ok (.slice A' n' c') w' ∧ Sl w' (fun b => w.heap.size ≤ b) (.slice A' n' c') xs ∧ Below w.heap.size w w' := by
  have hn := h.len
  have hinfo : (Try.prog.info? 5).map (fun i => (i.zero, i.size, i.bytes)) = some (some (.int .u8 0), Rep.sz UInt8, 1) := by kernel_rfl
  obtain ⟨i, hi, hz, hsz, hby⟩ := info_parts hinfo
  have h1 : Sl w (fun _ => True) (.slice (some ⟨g, 0, none⟩) ([] : List UInt8).length ([] : List UInt8).length) ([] : List UInt8) := Sl.nil w _ _ 0 (by omega) (fun h => by simp at h)
  obtain ⟨v', w', hr, s, b, -⟩ := append_full (P := Try.prog) (α := UInt8) (ok' := fun b => w.heap.size ≤ b) 45 45 5 i (.int .u8 0) 1 Try.underlying45 hi hz hsz hby rfl h1 h.arg (.inl rfl) (Nat.le_refl _) (fun _ _ => Flat.flat) (fun _ _ => Flat.flat) (by simp; omega) (by simp; omega)
  obtain ⟨A', c', rfl, _⟩ := id s
  exact ⟨w', A', _, c', hr, s, b⟩

theorem body_on {w w6 w7 w8 : World} {g3 : Nat} {v : Value} {xs : List UInt8} (s7 : Sl w7 (fun b => w6.heap.size ≤ b) v xs) (hw : w.heap.size ≤ w6.heap.size) (hg : g3 < w6.heap.size)
    (hm : ∀ b, w6.heap.size ≤ b → b < w7.heap.size → w8.heap[b]? = w7.heap[b]?) : Sl w8 (fun b => w.heap.size ≤ b ∧ b ≠ g3) v xs :=
  s7.mono fun b hb hl => ⟨⟨Nat.le_trans hw hb, by omega⟩, hm b hb hl⟩
set_option maxHeartbeats 4000000 in
theorem refTake_c {w : World} {A : Option Addr} {n c : Nat} {bs : List UInt8} (h : Sl w (fun b => b < w.heap.size) (.slice A n c) bs) (hl : n ≤ 100000) :
    Calls Try.prog 71 #[.slice A n c] w (TakeR w bs) := by
  have hn := h.len_eq
  refine refTake_sx _ (fun _ => False) w A n c ?_
  intro g3 hg3
  refine ⟨fun hlt w1 f1 b1 lo3 t3 => TakeR.no ?_ (fr_below f1), fun h19 w1 f1 b1 lo3 t3 => ?_⟩
  · unfold takeOk; rw [decide_eq_false (by omega)]; simp
  obtain ⟨p, o, rfl, hok⟩ := h.at_ (by omega)
  have hp : p < w1.heap.size := Nat.lt_of_lt_of_le hok.1 f1.size
  have e0 : ∀ k (hk : k < bs.length), (bs[k].toNat : Int) = by_ bs k := fun k hk => by unfold by_; rw [List.getD_eq_getElem?_getD, List.getElem?_eq_getElem hk]; rfl
  refine ⟨by omega, by omega, p, o, rfl, fun w2 f2 b2 => ⟨by_ bs 0, ?_, ⟨hp, by simp⟩, by omega, by omega, p, o, rfl, by_ bs 1, ?_, ⟨hp, by simp⟩, by omega, by omega, p, o, rfl, by_ bs 2, ?_, ⟨hp, by simp⟩, ?_⟩⟩
  · rw [← e0 0 (by omega)]; exact elem_at (h.below (fr_below f2)) 0 (by omega)
  · rw [← e0 1 (by omega)]; exact elem_at (h.below (fr_below f2)) 1 (by omega)
  · rw [← e0 2 (by omega)]; exact elem_at (h.below (fr_below f2)) 2 (by omega)
  have hmid : ∀ w', (Instr.sliceAt 45 (.slice (some ⟨p, o, none⟩) n c) (some (.int .i64 (15 : Int))) (some (.int .i64 (IntKind.i64.wrap ((n : Int) - (4 : Int))))) none).run Try.prog w' = .ok (.slice (if c = 15 then some ⟨p, o, none⟩ else some ⟨p, o + 15, none⟩) (n - 4 - 15) (c - 15)) w' := fun w' => by
    have := run_slice_mid (P := Try.prog) (w := w') 45 5 _ Try.underlying45 rfl (some ⟨p, o, none⟩) n c 15 (n - 4) (by omega) (by omega)
    rw [wrap_in (by omega), show ((n : Int) - 4) = ((n - 4 : Nat) : Int) by omega]
    refine this.trans ?_
    simp only [Option.map_some, add_plain]
    rfl
  have hsl : Sl w (fun b => b < w.heap.size) (.slice (if c = 15 then some ⟨p, o, none⟩ else some ⟨p, o + 15, none⟩) (n - 4 - 15) (c - 15)) (bodyV bs) := by
    have := (h.take (n - 4) c (by omega) (by omega) (by omega)).drop 15 (by simp; omega)
    simp only [Option.map_some, add_plain] at this
    unfold bodyV
    rw [← hn.1]
    exact this
  refine ⟨_, _, _, fun w' _ => hmid w', ?_⟩
  generalize (if c = 15 then (some ⟨p, o, none⟩ : Option Addr) else some ⟨p, o + 15, none⟩) = A14 at hsl
  have g3w : g3 < w1.heap.size := heap_lt t3
  have a3 : ∀ w', Fr (fun _ => False) w w' → Calls Try.prog 79 #[.slice (some ⟨p, o, none⟩) n c, .int .i64 (3 : Int)] w' (Ret (.int .i64 (fld bs 3)) w') := fun w' f => at_c (h.below (fr_below f)) 3 (by omega)
  have a7 : ∀ w', Fr (fun _ => False) w w' → Calls Try.prog 79 #[.slice (some ⟨p, o, none⟩) n c, .int .i64 (7 : Int)] w' (Ret (.int .i64 (fld bs 7)) w') := fun w' f => at_c (h.below (fr_below f)) 7 (by omega)
  have a11 : ∀ w', Fr (fun _ => False) w w' → Calls Try.prog 79 #[.slice (some ⟨p, o, none⟩) n c, .int .i64 (11 : Int)] w' (Ret (.int .i64 (fld bs 11)) w') := fun w' f => at_c (h.below (fr_below f)) 11 (by omega)
  clear hmid e0 lo3 t3 hg3 f1
  repeat' (first
    | (with_reducible refine And.intro ?_ ?_)
    | ((with_reducible refine (a3 _ (by assumption)).mono ?_); rintro e w' ⟨rfl, b⟩; refine ⟨_, rfl, ok_ret b (by assumption), keep_below b (by repeat (first | exact Nat.le_refl _ | refine Nat.le_trans ?_ (Below.size (by assumption)))), ?_⟩; replace b := And.intro b (Fr.step (S := fun _ => False) (a := w) (by assumption) b); obtain ⟨b, f⟩ := b)
    | ((with_reducible refine (a7 _ (by assumption)).mono ?_); rintro e w' ⟨rfl, b⟩; refine ⟨_, rfl, ok_ret b (by assumption), keep_below b (by repeat (first | exact Nat.le_refl _ | refine Nat.le_trans ?_ (Below.size (by assumption)))), ?_⟩; replace b := And.intro b (Fr.step (S := fun _ => False) (a := w) (by assumption) b); obtain ⟨b, f⟩ := b)
    | ((with_reducible refine (a11 _ (by assumption)).mono ?_); rintro e w' ⟨rfl, b⟩; refine ⟨_, rfl, ok_ret b (by assumption), keep_below b (by repeat (first | exact Nat.le_refl _ | refine Nat.le_trans ?_ (Below.size (by assumption)))), ?_⟩; replace b := And.intro b (Fr.step (S := fun _ => False) (a := w) (by assumption) b); obtain ⟨b, f⟩ := b)
    | (with_reducible intro _))
  all_goals
    obtain ⟨w7, A', n', c', hr7, s7, b7⟩ := app0 (hsl.below (fr_below (by assumption))) (by omega)
    refine ⟨w7, A', n', c', hr7, ok_below (by assumption) b7, ?_⟩
  all_goals (try (refine And.intro (keep_below b7 (by repeat (first | exact Nat.le_refl _ | refine Nat.le_trans ?_ (Below.size (by assumption))))) ?_))
  all_goals intros
  all_goals (refine refTake_rest (by assumption) h (by omega) ?_)
  all_goals (refine body_on s7 (Fr.size (S := fun _ => False) (by assumption)) (Nat.lt_of_lt_of_le g3w (by repeat (first | exact Nat.le_refl _ | refine Nat.le_trans ?_ (Below.size (by assumption))))) fun b' hb' hl' => ?_)
  all_goals (first | exact Below.block (by assumption) b' hl' | (refine Fr.block (S := fun b => b ∈ [_]) (by assumption) b' hl' (fun hm => ?_); simp only [List.mem_singleton] at hm; subst hm; exact absurd hb' (Nat.not_le_of_lt (Nat.lt_of_lt_of_le (heap_lt (by assumption)) (by repeat (first | exact Nat.le_refl _ | refine Nat.le_trans ?_ (Below.size (by assumption))))))))
end Go.Proofs.Ytdjjfpcfclheiaa.Frm
