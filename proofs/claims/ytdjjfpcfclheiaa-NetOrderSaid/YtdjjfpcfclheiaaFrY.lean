/- Frames: the contract of Take. -/
import Derived.Test.YtdjjfpcfclheiaaFrW
set_option linter.unusedSimpArgs false
set_option linter.unusedVariables false
namespace Go.Proofs.Ytdjjfpcfclheiaa.Frm
open Go Go.RowKit Go.Proofs Go.Trc Go.Sx
set_option maxRecDepth 10000

theorem num4_snoc (l : List UInt8) (m : Nat) (h : m < l.length) : num4 (l.take (m + 1)) = num4 (l.take m) * 256 + (l[m].toNat : Int) := by
  unfold num4
  rw [List.take_succ_eq_append_getElem h, List.foldl_append]
  rfl
theorem num4_lt : ∀ (m : Nat) (l : List UInt8), m ≤ l.length → 0 ≤ num4 (l.take m) ∧ num4 (l.take m) < 256 ^ m
  | 0, l, _ => by simp [num4]
  | m + 1, l, h => by
    have ih := num4_lt m l (by omega)
    rw [num4_snoc l m (by omega)]
    have := (l[m]).toNat_lt
    rw [Int.pow_succ]
    constructor
    · omega
    · omega
/-- 'b[k:][:4]' -/
theorem cut4 {w : World} {ok : Nat → Prop} {A : Option Addr} {n c : Nat} {bs : List UInt8} (h : Sl w ok (.slice A n c) bs) (k : Nat) (hk : k + 4 ≤ bs.length) :
    ∃ A1 n1 c1 A2 c2, (∀ w', (Instr.sliceAt 45 (.slice A n c) (some (.int .i64 (k : Int))) none none).run Try.prog w' = .ok (.slice A1 n1 c1) w') ∧
      (∀ w', (Instr.sliceAt 45 (.slice A1 n1 c1) none (some (.int .i64 ((4 : Nat) : Int))) none).run Try.prog w' = .ok (.slice A2 4 c2) w') ∧ Sl w ok (.slice A2 4 c2) ((bs.drop k).take 4) := by
  have hn := h.len_eq
  obtain ⟨p, o, rfl, hok⟩ := h.at_ (by omega)
  have hinfo : (Try.prog.info? 5).map (fun i => (i.zero, i.size, i.bytes)) = some (some (.int .u8 0), Rep.sz UInt8, 1) := by kernel_rfl
  obtain ⟨i, hi, hz, hsz, hby⟩ := info_parts hinfo
  have h1 := h.drop k (by omega)
  refine ⟨_, _, _, _, _, fun w' => run_slice_lo (P := Try.prog) (w := w') 45 5 i Try.underlying45 hi _ n c k (by omega) (by omega),
    fun w' => run_slice_hi (P := Try.prog) (w := w') 45 5 i Try.underlying45 hi _ (n - k) (c - k) 4 (by omega), ?_⟩
  have h2 := h1.take 4 (c - k) (by simp; omega) (by omega) (by omega)
  rw [if_neg (by omega)]
  rw [if_neg (by omega)] at h2 ⊢
  rw [hsz]
  simpa [add_plain] using h2

set_option maxHeartbeats 2000000 in
theorem take_end {w w7 : World} {A A21 : Option Addr} {n c n22 c23 g3 : Nat} {bs : List UInt8} {G : List Nat} (f7 : Fr (fun _ => False) w w7) (h : Sl w (fun b => b < w.heap.size) (.slice A n c) bs) (h19 : 19 ≤ bs.length)
    (sb : Sl w7 (fun b => w.heap.size ≤ b ∧ b ≠ g3) (.slice A21 n22 c23) (bodyV bs)) :
    Calls Try.prog 43 #[.agg #[.int .i64 (IntKind.i64.wrap (by_ bs 0)), .int .i64 (IntKind.i64.wrap (by_ bs 1)), .int .i64 (IntKind.i64.wrap (by_ bs 2)), .int .i64 (fld bs 3), .int .i64 (fld bs 7), .int .i64 (fld bs 11), .slice A21 n22 c23]] w7 fun r w8 =>
      ∃ A54 : Option Addr, ∃ n55 : Nat, ∃ n56 : Nat, ∃ i57 : Int, r = .returned (.tuple #[.slice A54 n55 n56, .int .i64 i57]) ∧ (Fr (fun _ => False) w w8 ∧ Mild G w7 w8) ∧
      ((¬ i57 = (0 : Int) → (∀ w10 : World, Fr (fun _ => False) w w10 → Fr (fun b => b ∈ [g3]) w8 w10 → TakeR w bs (.returned (.tuple #[.agg #[.int .i64 (0 : Int), .int .i64 (0 : Int), .int .i64 (0 : Int), .int .i64 (0 : Int), .int .i64 (0 : Int), .int .i64 (0 : Int), .slice none 0 0], .int .i64 (2 : Int)])) w10)) ∧
      (i57 = (0 : Int) →
        (Calls Try.prog 69 #[.slice A54 n55 n56, .slice A n c] w8 fun r w9 => ∃ b58 : Bool, r = .returned (.bool b58) ∧ (Fr (fun _ => False) w w9 ∧ Mild G w8 w9) ∧
         ((b58 = false → (∀ w10 : World, Fr (fun _ => False) w w10 → Fr (fun b => b ∈ [g3]) w9 w10 → TakeR w bs (.returned (.tuple #[.agg #[.int .i64 (0 : Int), .int .i64 (0 : Int), .int .i64 (0 : Int), .int .i64 (0 : Int), .int .i64 (0 : Int), .int .i64 (0 : Int), .slice none 0 0], .int .i64 (2 : Int)])) w10)) ∧
         (b58 = true → (∀ w10 : World, Fr (fun _ => False) w w10 → Fr (fun b => b ∈ [g3]) w9 w10 → TakeR w bs (.returned (.tuple #[.agg #[.int .i64 (IntKind.i64.wrap (by_ bs 0)), .int .i64 (IntKind.i64.wrap (by_ bs 1)), .int .i64 (IntKind.i64.wrap (by_ bs 2)), .int .i64 (fld bs 3), .int .i64 (fld bs 7), .int .i64 (fld bs 11), .slice A21 n22 c23], .int .i64 (0 : Int)])) w10)))))) := by
  obtain rfl := sb.len
  simp only [by_rng]
  have hr : ∀ v ∈ [fld bs 3, fld bs 7, fld bs 11], -9223372036854775808 ≤ v ∧ v ≤ 9223372036854775807 := by
    intro v hv
    simp only [List.mem_cons, List.not_mem_nil, or_false] at hv
    rcases hv with rfl | rfl | rfl <;> exact fld_rng bs _ (by omega)
  refine (put_c hr (Sl.any sb)).mono ?_
  rintro e w8 ⟨A9, n9, c9, rfl, o9, b9⟩
  have f8 := f7.step b9
  refine ⟨A9, n9, c9, _, rfl, ok_ret b9 f7, fun hne w10 f10 _ => TakeR.no ?_ (fr_below f10), fun hm => ?_⟩
  · unfold takeOk; rw [decide_eq_false hne]; simp
  refine (equal_c (OwnF.to o9 (ok := fun _ => True) fun _ _ => trivial) (h.below (fr_below f8))).mono ?_
  rintro e w9 ⟨rfl, b10⟩
  refine ⟨_, rfl, ok_ret b10 f8, fun hf w10 f10 _ => TakeR.no ?_ (fr_below f10), fun ht w10 f10 q10 => TakeR.yes ?_ ?_ (fr_below f10)⟩
  · rw [if_pos hm] at hf; unfold takeOk; rw [hf]; simp
  · rw [if_pos hm] at ht; unfold takeOk; rw [ht, decide_eq_true hm, decide_eq_true h19]; rfl
  · exact Sl.mono (ok := fun b => w.heap.size ≤ b ∧ b ≠ g3) (fun b hb hl => ⟨hb.1, q10.block b hl (fun hm => hb.2 (by simpa using hm))⟩) ((sb.below b9).below b10)

theorem step_or {l : List UInt8} (hl : l.length = 4) {m : Nat} (hm : m < 4) : bits .or .i64 (IntKind.i64.wrap (num4 (l.take m) * 2 ^ 8)) (IntKind.i64.wrap ((l[m]'(by omega)).toNat : Int)) = num4 (l.take (m + 1)) := by
  have := num4_lt m l (by omega)
  have h2 : (256 : Int) ^ m ≤ 256 ^ 3 := by
    rcases m with _ | _ | _ | _ | m <;> first | decide | omega
  rw [or_low ⟨this.1, by omega⟩, num4_snoc l m (by omega)]

def l4 (bs : List UInt8) (k : Nat) : List UInt8 := (bs.drop k).take 4
theorem l4_len {bs : List UInt8} {k : Nat} (h : k + 4 ≤ bs.length) : (l4 bs k).length = 4 := by unfold l4; simp; omega
theorem l4_fld (bs : List UInt8) (k : Nat) (h : k + 4 ≤ bs.length) : num4 ((l4 bs k).take 4) = fld bs k := by unfold fld l4; rw [List.take_take]; rfl

set_option maxHeartbeats 4000000 in
theorem take_loops {w w4 : World} {A0 A17 : Option Addr} {n1 n2 n18 n19 g3 g20 g21 : Nat} {bs : List UInt8} (hf : Fr (fun _ => False) w w4) (h : Sl w (fun b => b < w.heap.size) (.slice A0 n1 n2) bs) (h19 : 19 ≤ bs.length)
    (sb : Sl w4 (fun b => w.heap.size ≤ b ∧ b ≠ g20 ∧ b ≠ g3) (.slice A17 n18 n19) (bodyV bs)) :
∃ A22 : Option Addr, ∃ n23 : Nat, ∃ n24 : Nat, (Instr.sliceAt 45 (.slice A0 n1 n2) (some (.int .i64 (3 : Int))) none none).run Try.prog w4 = .ok (.slice A22 n23 n24) w4 ∧
  (∃ A25 : Option Addr, ∃ n26 : Nat, ∃ n27 : Nat, (Instr.sliceAt 45 (.slice A22 n23 n24) none (some (.int .i64 (4 : Int))) none).run Try.prog w4 = .ok (.slice A25 n26 n27) w4 ∧
  (∃ (I0 : Int → Int → Int → Int → World → Prop) (M0 : Int → Int → Int → Int → World → Nat), (I0 (0 : Int) (0 : Int) (0 : Int) (0 : Int) w4) ∧
  ∀ i28 : Int, ∀ i29 : Int, ∀ i30 : Int, ∀ i31 : Int, ∀ w5 : World, Go.Sx.Fr (fun _ => False) w w5 → I0 i28 i29 i30 i31 w5 → w5.heap[g20]? = some (.cells #[.int .i64 (IntKind.i64.wrap (by_ bs 0)), .int .i64 (IntKind.i64.wrap (by_ bs 1)), .int .i64 (IntKind.i64.wrap (by_ bs 2)), .int .i64 i29, .int .i64 i30, .int .i64 i31, .slice A17 n18 n19] 47 (0, 0)) → 
   ((i28 < (n26 : Int) →
   ((0 : Int) ≤ i28 ∧ i28 < (n26 : Int) ∧ ∃ p32 : Nat, ∃ o33 : Nat, A25 = some ⟨p32, o33, none⟩ ∧
    (∃ i34 : Int, Go.Sx.CellsAt w5 p32 (o33 + (i28).toNat * 1 + 0) [.int .u8 i34] ∧ 
    (∀ w6 : World, Go.Sx.Fr (fun _ => False) w w6 → Go.Sx.Fr (fun b => b ∈ [g20]) w5 w6 → I0 (IntKind.i64.wrap (i28 + (1 : Int))) (bits .or .i64 (IntKind.i64.wrap (i29 * 2 ^ 8)) (IntKind.i64.wrap i34)) i30 i31 w6 ∧ M0 (IntKind.i64.wrap (i28 + (1 : Int))) (bits .or .i64 (IntKind.i64.wrap (i29 * 2 ^ 8)) (IntKind.i64.wrap i34)) i30 i31 w6 < M0 i28 i29 i30 i31 w5)))) ∧
   ((n26 : Int) ≤ i28 →
   (∃ A32 : Option Addr, ∃ n33 : Nat, ∃ n34 : Nat, (Instr.sliceAt 45 (.slice A0 n1 n2) (some (.int .i64 (7 : Int))) none none).run Try.prog w5 = .ok (.slice A32 n33 n34) w5 ∧
    (∃ A35 : Option Addr, ∃ n36 : Nat, ∃ n37 : Nat, (Instr.sliceAt 45 (.slice A32 n33 n34) none (some (.int .i64 (4 : Int))) none).run Try.prog w5 = .ok (.slice A35 n36 n37) w5 ∧
    (∃ (I1 : Bool → Int → Int → Int → Int → World → Prop) (M1 : Bool → Int → Int → Int → Int → World → Nat), (I1 (decide (i28 < (n26 : Int))) (0 : Int) i29 i30 i31 w5) ∧
    ∀ b38 : Bool, ∀ i39 : Int, ∀ i40 : Int, ∀ i41 : Int, ∀ i42 : Int, ∀ w6 : World, Go.Sx.Fr (fun _ => False) w w6 → I1 b38 i39 i40 i41 i42 w6 → w6.heap[g20]? = some (.cells #[.int .i64 (IntKind.i64.wrap (by_ bs 0)), .int .i64 (IntKind.i64.wrap (by_ bs 1)), .int .i64 (IntKind.i64.wrap (by_ bs 2)), .int .i64 i40, .int .i64 i41, .int .i64 i42, .slice A17 n18 n19] 47 (0, 0)) → 
     ((i39 < (n36 : Int) →
     ((0 : Int) ≤ i39 ∧ i39 < (n36 : Int) ∧ ∃ p43 : Nat, ∃ o44 : Nat, A35 = some ⟨p43, o44, none⟩ ∧
      (∃ i45 : Int, Go.Sx.CellsAt w6 p43 (o44 + (i39).toNat * 1 + 0) [.int .u8 i45] ∧ 
      (∀ w7 : World, Go.Sx.Fr (fun _ => False) w w7 → Go.Sx.Fr (fun b => b ∈ [g20]) w6 w7 → I1 (decide (i39 < (n36 : Int))) (IntKind.i64.wrap (i39 + (1 : Int))) i40 (bits .or .i64 (IntKind.i64.wrap (i41 * 2 ^ 8)) (IntKind.i64.wrap i45)) i42 w7 ∧ M1 (decide (i39 < (n36 : Int))) (IntKind.i64.wrap (i39 + (1 : Int))) i40 (bits .or .i64 (IntKind.i64.wrap (i41 * 2 ^ 8)) (IntKind.i64.wrap i45)) i42 w7 < M1 b38 i39 i40 i41 i42 w6)))) ∧
     ((n36 : Int) ≤ i39 →
     (∃ A43 : Option Addr, ∃ n44 : Nat, ∃ n45 : Nat, (Instr.sliceAt 45 (.slice A0 n1 n2) (some (.int .i64 (11 : Int))) none none).run Try.prog w6 = .ok (.slice A43 n44 n45) w6 ∧
      (∃ A46 : Option Addr, ∃ n47 : Nat, ∃ n48 : Nat, (Instr.sliceAt 45 (.slice A43 n44 n45) none (some (.int .i64 (4 : Int))) none).run Try.prog w6 = .ok (.slice A46 n47 n48) w6 ∧
      (∃ (I2 : Bool → Int → Int → Int → Int → World → Prop) (M2 : Bool → Int → Int → Int → Int → World → Nat), (I2 (decide (i39 < (n36 : Int))) (0 : Int) i40 i41 i42 w6) ∧
      ∀ b49 : Bool, ∀ i50 : Int, ∀ i51 : Int, ∀ i52 : Int, ∀ i53 : Int, ∀ w7 : World, Go.Sx.Fr (fun _ => False) w w7 → I2 b49 i50 i51 i52 i53 w7 → w7.heap[g20]? = some (.cells #[.int .i64 (IntKind.i64.wrap (by_ bs 0)), .int .i64 (IntKind.i64.wrap (by_ bs 1)), .int .i64 (IntKind.i64.wrap (by_ bs 2)), .int .i64 i51, .int .i64 i52, .int .i64 i53, .slice A17 n18 n19] 47 (0, 0)) → 
       ((i50 < (n47 : Int) →
       ((0 : Int) ≤ i50 ∧ i50 < (n47 : Int) ∧ ∃ p54 : Nat, ∃ o55 : Nat, A46 = some ⟨p54, o55, none⟩ ∧
        (∃ i56 : Int, Go.Sx.CellsAt w7 p54 (o55 + (i50).toNat * 1 + 0) [.int .u8 i56] ∧ 
        (∀ w8 : World, Go.Sx.Fr (fun _ => False) w w8 → Go.Sx.Fr (fun b => b ∈ [g20]) w7 w8 → I2 (decide (i50 < (n47 : Int))) (IntKind.i64.wrap (i50 + (1 : Int))) i51 i52 (bits .or .i64 (IntKind.i64.wrap (i53 * 2 ^ 8)) (IntKind.i64.wrap i56)) w8 ∧ M2 (decide (i50 < (n47 : Int))) (IntKind.i64.wrap (i50 + (1 : Int))) i51 i52 (bits .or .i64 (IntKind.i64.wrap (i53 * 2 ^ 8)) (IntKind.i64.wrap i56)) w8 < M2 b49 i50 i51 i52 i53 w7)))) ∧
       ((n47 : Int) ≤ i50 →
       (
        Calls Try.prog 43 #[(.agg #[.int .i64 (IntKind.i64.wrap (by_ bs 0)), .int .i64 (IntKind.i64.wrap (by_ bs 1)), .int .i64 (IntKind.i64.wrap (by_ bs 2)), .int .i64 i51, .int .i64 i52, .int .i64 i53, .slice A17 n18 n19])] w7 fun r w8 => ∃ A54 : Option Addr, ∃ n55 : Nat, ∃ n56 : Nat, ∃ i57 : Int, r = .returned (.tuple #[.slice A54 n55 n56, .int .i64 i57]) ∧ (Go.Sx.Fr (fun _ => False) w w8 ∧ Go.Sx.Mild [g21, g20, g3] w7 w8) ∧ 
        ((¬ i57 = (0 : Int) →
        (∀ w9 : World, Go.Sx.Fr (fun _ => False) w w9 → Go.Sx.Fr (fun b => b ∈ [g3]) w8 w9 → (TakeR w bs) (.returned (.tuple #[.agg #[.int .i64 (0 : Int), .int .i64 (0 : Int), .int .i64 (0 : Int), .int .i64 (0 : Int), .int .i64 (0 : Int), .int .i64 (0 : Int), .slice none 0 0], .int .i64 (2 : Int)])) w9)) ∧
        (i57 = (0 : Int) →
        (
         Calls Try.prog 69 #[(.slice A54 n55 n56), (.slice A0 n1 n2)] w8 fun r w9 => ∃ b58 : Bool, r = .returned (.bool b58) ∧ (Go.Sx.Fr (fun _ => False) w w9 ∧ Go.Sx.Mild [g21, g20, g3] w8 w9) ∧ 
         ((b58 = false →
         (∀ w10 : World, Go.Sx.Fr (fun _ => False) w w10 → Go.Sx.Fr (fun b => b ∈ [g3]) w9 w10 → (TakeR w bs) (.returned (.tuple #[.agg #[.int .i64 (0 : Int), .int .i64 (0 : Int), .int .i64 (0 : Int), .int .i64 (0 : Int), .int .i64 (0 : Int), .int .i64 (0 : Int), .slice none 0 0], .int .i64 (2 : Int)])) w10)) ∧
         (b58 = true →
         (∀ w10 : World, Go.Sx.Fr (fun _ => False) w w10 → Go.Sx.Fr (fun b => b ∈ [g3]) w9 w10 → (TakeR w bs) (.returned (.tuple #[.agg #[.int .i64 (IntKind.i64.wrap (by_ bs 0)), .int .i64 (IntKind.i64.wrap (by_ bs 1)), .int .i64 (IntKind.i64.wrap (by_ bs 2)), .int .i64 i51, .int .i64 i52, .int .i64 i53, .slice A17 n18 n19], .int .i64 (0 : Int)])) w10)))))))))))))))))))))
  := by
  have hn := h.len_eq
  have z0 : (0 : Int) = num4 ([] : List UInt8) := rfl
  obtain ⟨A1, n1, c1, A2, c2, hs1, hs2, hcut⟩ := cut4 h 3 (by omega)
  have hlen : (l4 bs 3).length = 4 := l4_len (by omega)
  have hcut : Sl w (fun b => b < w.heap.size) (.slice A2 4 c2) (l4 bs 3) := hcut
  refine ⟨A1, n1, c1, hs1 _, A2, 4, c2, hs2 _, ?_⟩
  refine ⟨fun a b c d w5 => ∃ m : Nat, m ≤ 4 ∧ a = m ∧ b = num4 ((l4 bs 3).take m) ∧ c = 0 ∧ d = 0 ∧ Sl w5 (fun b => w.heap.size ≤ b ∧ b ≠ g20 ∧ b ≠ g3) (.slice A17 n18 n19) (bodyV bs),
    fun a _ _ _ _ => (4 - a).toNat, ⟨0, by omega, rfl, rfl, rfl, rfl, sb⟩, ?_⟩
  rintro i28 i29 i30 i31 w5 f5 ⟨m, hm4, rfl, rfl, rfl, rfl, s5⟩ t5
  refine ⟨fun hlt => ?_, fun hge => ?_⟩
  · skip
    -- one byte more
    have hm : m < 4 := by omega
    obtain ⟨p, o, rfl, hok⟩ := hcut.at_ (by omega)
    refine ⟨by omega, by omega, p, o, rfl, _, elem_at (hcut.below (fr_below f5)) m (by omega), fun w6 f6 q6 => ⟨?_, ?_⟩⟩
    · refine ⟨m + 1, by omega, wrap_in (by omega), step_or hlen hm, rfl, rfl, s5.mono fun b hb hl => ⟨hb, q6.block b hl fun hm => hb.2.1 (by simpa using hm)⟩⟩
    · rw [wrap_in (by omega)]; show ((4 : Int) - ((m : Int) + 1)).toNat < ((4 : Int) - m).toNat; omega
  obtain rfl : m = 4 := by omega
  rw [l4_fld bs 3 (by omega)] at *
  clear hcut hlen
  obtain ⟨A1, n1, c1, A2, c2, hs1, hs2, hcut⟩ := cut4 h 7 (by omega)
  have hlen : (l4 bs 7).length = 4 := l4_len (by omega)
  have hcut : Sl w (fun b => b < w.heap.size) (.slice A2 4 c2) (l4 bs 7) := hcut
  refine ⟨A1, n1, c1, hs1 _, A2, 4, c2, hs2 _, ?_⟩
  refine ⟨fun _ a e b c w5 => ∃ m : Nat, m ≤ 4 ∧ a = m ∧ e = fld bs 3 ∧ b = num4 ((l4 bs 7).take m) ∧ c = 0 ∧ Sl w5 (fun b => w.heap.size ≤ b ∧ b ≠ g20 ∧ b ≠ g3) (.slice A17 n18 n19) (bodyV bs),
    fun _ a _ _ _ _ => (4 - a).toNat, ⟨0, by omega, rfl, rfl, rfl, rfl, s5⟩, ?_⟩
  clear f5 t5 s5
  rintro b38 i39 i40 i41 i42 w5 f5 ⟨m, hm4, rfl, rfl, rfl, rfl, s5⟩ t5
  refine ⟨fun hlt => ?_, fun hge => ?_⟩
  · skip
    -- one byte more
    have hm : m < 4 := by omega
    obtain ⟨p, o, rfl, hok⟩ := hcut.at_ (by omega)
    refine ⟨by omega, by omega, p, o, rfl, _, elem_at (hcut.below (fr_below f5)) m (by omega), fun w6 f6 q6 => ⟨?_, ?_⟩⟩
    · refine ⟨m + 1, by omega, wrap_in (by omega), rfl, step_or hlen hm, rfl, s5.mono fun b hb hl => ⟨hb, q6.block b hl fun hm => hb.2.1 (by simpa using hm)⟩⟩
    · rw [wrap_in (by omega)]; show ((4 : Int) - ((m : Int) + 1)).toNat < ((4 : Int) - m).toNat; omega
  obtain rfl : m = 4 := by omega
  rw [l4_fld bs 7 (by omega)] at *
  clear hcut hlen
  obtain ⟨A1, n1, c1, A2, c2, hs1, hs2, hcut⟩ := cut4 h 11 (by omega)
  have hlen : (l4 bs 11).length = 4 := l4_len (by omega)
  have hcut : Sl w (fun b => b < w.heap.size) (.slice A2 4 c2) (l4 bs 11) := hcut
  refine ⟨A1, n1, c1, hs1 _, A2, 4, c2, hs2 _, ?_⟩
  refine ⟨fun _ a e b c w5 => ∃ m : Nat, m ≤ 4 ∧ a = m ∧ e = fld bs 3 ∧ b = fld bs 7 ∧ c = num4 ((l4 bs 11).take m) ∧ Sl w5 (fun b => w.heap.size ≤ b ∧ b ≠ g20 ∧ b ≠ g3) (.slice A17 n18 n19) (bodyV bs),
    fun _ a _ _ _ _ => (4 - a).toNat, ⟨0, by omega, rfl, rfl, rfl, rfl, s5⟩, ?_⟩
  clear f5 t5 s5
  rintro b38 i39 i40 i41 i42 w5 f5 ⟨m, hm4, rfl, rfl, rfl, rfl, s5⟩ t5
  refine ⟨fun hlt => ?_, fun hge => ?_⟩
  · skip
    -- one byte more
    have hm : m < 4 := by omega
    obtain ⟨p, o, rfl, hok⟩ := hcut.at_ (by omega)
    refine ⟨by omega, by omega, p, o, rfl, _, elem_at (hcut.below (fr_below f5)) m (by omega), fun w6 f6 q6 => ⟨?_, ?_⟩⟩
    · refine ⟨m + 1, by omega, wrap_in (by omega), rfl, rfl, step_or hlen hm, s5.mono fun b hb hl => ⟨hb, q6.block b hl fun hm => hb.2.1 (by simpa using hm)⟩⟩
    · rw [wrap_in (by omega)]; show ((4 : Int) - ((m : Int) + 1)).toNat < ((4 : Int) - m).toNat; omega
  obtain rfl : m = 4 := by omega
  rw [l4_fld bs 11 (by omega)] at *
  exact take_end f5 h h19 (s5.mono fun b hb hl => ⟨⟨hb.1, hb.2.2⟩, rfl⟩)

set_option maxHeartbeats 4000000 in
theorem take_c {w : World} {A : Option Addr} {n c : Nat} {bs : List UInt8} (h : Sl w (fun b => b < w.heap.size) (.slice A n c) bs) (hl : n ≤ 100000) :
    Calls Try.prog 49 #[.slice A n c] w (TakeR w bs) := by
  have hn := h.len_eq
  refine take_sx _ (fun _ => False) w A n c ?_
  intro g3 hg3
  refine ⟨fun hlt w1 f1 b1 lo3 t3 => TakeR.no ?_ (fr_below f1), fun h19 w1 f1 b1 lo3 t3 => ?_⟩
  · unfold takeOk; rw [decide_eq_false (by omega)]; simp
  obtain ⟨p, o, rfl, hok⟩ := h.at_ (by omega)
  have hp : p < w1.heap.size := Nat.lt_of_lt_of_le hok.1 f1.size
  have e0 : ∀ k (hk : k < bs.length), (bs[k].toNat : Int) = by_ bs k := fun k hk => by unfold by_; rw [List.getD_eq_getElem?_getD, List.getElem?_eq_getElem hk]; rfl
  refine ⟨by omega, by omega, p, o, rfl, fun w2 f2 b2 => ⟨by_ bs 0, ?_, ⟨hp, by simp⟩, by omega, by omega, p, o, rfl, by_ bs 1, ?_, ⟨hp, by simp⟩, by omega, by omega, p, o, rfl, by_ bs 2, ?_, ⟨hp, by simp⟩, ?_⟩⟩
  · rw [← e0 0 (by omega)]; exact elem_at (h.below (fr_below f2)) 0 (by omega)
  · rw [← e0 1 (by omega)]; exact elem_at (h.below (fr_below f2)) 1 (by omega)
  · rw [← e0 2 (by omega)]; exact elem_at (h.below (fr_below f2)) 2 (by omega)
  have hmid : ∀ w', (Instr.sliceAt 45 (.slice (some ⟨p, o, none⟩) n c) (some (.int .i64 (15 : Int))) (some (.int .i64 (IntKind.i64.wrap ((n : Int) - (4 : Int))))) none).run Try.prog w' = .ok (.slice (if c = 15 then some ⟨p, o, none⟩ else some ⟨p, o + 15, none⟩) (n - 4 - 15) (c - 15)) w' := fun w' => by
    have := run_slice_mid (P := Try.prog) (w := w') 45 5 _ Try.underlying45 rfl (some ⟨p, o, none⟩) n c 15 (n - 4) (by omega) (by omega)
    rw [wrap_in (by omega), show ((n : Int) - 4) = ((n - 4 : Nat) : Int) by omega]
    refine this.trans ?_
    simp only [Option.map_some, add_plain]
    rfl
  have hsl : Sl w (fun b => b < w.heap.size) (.slice (if c = 15 then some ⟨p, o, none⟩ else some ⟨p, o + 15, none⟩) (n - 4 - 15) (c - 15)) (bodyV bs) := by
    have := (h.take (n - 4) c (by omega) (by omega) (by omega)).drop 15 (by simp; omega)
    simp only [Option.map_some, add_plain] at this
    unfold bodyV
    rw [← hn.1]
    exact this
  refine ⟨_, _, _, fun w' _ => hmid w', ?_⟩
  generalize (if c = 15 then (some ⟨p, o, none⟩ : Option Addr) else some ⟨p, o + 15, none⟩) = A14 at hsl
  have g3w : g3 < w1.heap.size := heap_lt t3
  have g3w2 : g3 < w2.heap.size := Nat.lt_of_lt_of_le g3w b2.size
  clear hmid e0 lo3 t3 hg3 f1
  refine ⟨?_, ?_⟩
  · refine (clone_c (hsl.below (fr_below f2)) (by omega)).mono ?_
    rintro e w3 ⟨A17, n18, n19, rfl, s3, b3⟩
    refine ⟨A17, n18, n19, rfl, ok_ret b3 f2, keep_below b3 b2.size, ?_⟩
    intro g20 hg20 g21 hg21 w4 f4 b4 lo21 t21 lo20 t20
    refine take_loops f4 h (by omega) (Sl.mono (ok := fun b => w2.heap.size ≤ b) (fun b hb hl => ⟨⟨Nat.le_trans f2.size hb, by omega, by omega⟩, b4.block b hl⟩) s3)
  · intro g17 hg17 w3 f3 b3 lo17 t17
    refine (clone_c (hsl.below (fr_below f3)) (by omega)).mono ?_
    rintro e w4 ⟨A17, n18, n19, rfl, s4, b4⟩
    have g17w : g17 < w3.heap.size := heap_lt t17
    refine ⟨A17, n18, n19, rfl, ok_ret b4 f3, keep_below b4 (Nat.le_trans b2.size b3.size), ?_⟩
    intro g21 hg21 w5 f5 q5 lo21 t21
    have hsz := b3.size
    refine take_loops f5 h (by omega) (Sl.mono (ok := fun b => w3.heap.size ≤ b) (fun b hb hl => ⟨⟨Nat.le_trans f3.size hb, by omega, by omega⟩, q5.block b hl (fun hm => by simp at hm; omega)⟩) s4)
end Go.Proofs.Ytdjjfpcfclheiaa.Frm
