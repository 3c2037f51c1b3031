/- Net: the reference's methods: contracts. -/
import Derived.Test.YtdjjfpcfclheiaaNetR
set_option linter.unusedSimpArgs false
set_option linter.unusedVariables false
namespace Go.Proofs.Ytdjjfpcfclheiaa
open Go Go.RowKit Go.Proofs Go.Trc Go.Sx
section
variable {w w' : World} {g B : Nat} {xss : List (List UInt8)} {ts : List Int}
theorem ge_fr {S : Nat → Prop} {w0 w w' : World} (f : Fr S w0 w) (b : Below w.heap.size w w') : Fr S w0 w' := f.step b
set_option maxHeartbeats 1000000 in
theorem rAt (h : RNet w g B xss ts) (i : Int) : Calls Try.prog 56 #[Np g, .int .i64 i] w fun e w' => FrR w.heap.size (atV xss i) e w' ∧ Below w.heap.size w w' := by
  have no : ∀ {w'}, inV xss i = false → Fr (fun _ => False) w w' → FrR w.heap.size (atV xss i) (.returned (.tuple #[.agg #[.int .i64 (0 : Int), .int .i64 (0 : Int), .int .i64 (0 : Int), .int .i64 (0 : Int), .int .i64 (0 : Int), .int .i64 (0 : Int), .slice none 0 0], .int .i64 (1 : Int)])) w' ∧ Below w.heap.size w w' := by
    intro w' hf f
    unfold atV; rw [hf]
    exact ⟨⟨none, 0, 0, rfl, Sl.nil0 _ _⟩, fr_below f⟩
  refine rnAt_sx _ (fun _ => False) w _ i ?_
  intro g2 hg2
  refine ⟨fun h0 w1 f1 b1 _ _ => no (decide_eq_false (by omega)) f1, fun h0 => ⟨g, 0, rfl, fun w1 f1 b1 lo2 t2 => ?_⟩⟩
  have h1 := h.below b1
  obtain ⟨A, n, c, hc, hv, hn⟩ := h1.cells
  refine ⟨A, n, c, hc, fun hge w2 f2 _ => no (decide_eq_false (by omega)) f2, fun hlt => ?_⟩
  have ht : inV xss i = true := decide_eq_true (by omega)
  obtain ⟨k, rfl, hk⟩ := in_nat ht
  obtain ⟨p, o, A', n', c', rfl, hc', s'⟩ := hv.get k hk
  refine ⟨g, 0, rfl, _, n, c, hc, by omega, by omega, p, o, rfl, A', n', c', hc', ?_⟩
  have hsm := h.small _ (List.getElem_mem hk)
  have hn' := s'.len
  refine (Frm.refTake_c s'.here (by omega)).mono ?_
  rintro e w3 ⟨A3, n3, c3, rfl, s3, b3⟩
  refine ⟨_, _, _, _, _, _, A3, n3, c3, _, rfl, ok_ret b3 f1, fun w4 f4 q4 => ⟨?_, fr_below f4⟩⟩
  unfold atV; rw [if_pos ht, Int.toNat_natCast, getD_at hk]
  refine ⟨A3, n3, c3, rfl, s3.mono fun b hb hl => ⟨?_, q4.block b hl fun hm => ?_⟩⟩
  · exact Nat.le_trans f1.size hb
  · simp at hm; subst hm
    have := heap_lt t2
    omega
set_option maxHeartbeats 1000000 in
theorem rGone (h : RNet w g B xss ts) (k : Nat) (hk : k < xss.length) : Calls Try.prog 70 #[Np g, .int .i64 (k : Int)] w fun e w' => RNet w' g B (goneV xss k) ts ∧ Fr (fun b => b ∈ [g]) w w' ∧ e = .returned (.tuple #[]) := by
  have lg := h.lt
  have hl := h.len
  refine rnGone_sx _ (fun b => b ∈ [g]) w _ (k : Int) ⟨[], (fun b hb => by cases hb), g, 0, rfl, fun w1 f1 b1 => ?_⟩
  have h1 := h.below b1
  obtain ⟨A, n, c, hc, hv, hn⟩ := h1.cells
  obtain ⟨hs, q1, q2⟩ := hv
  have hsl := q2.1
  obtain ⟨i, hi, hsz⟩ := info2'
  obtain ⟨c1, s1⟩ := cut_hi (P := Try.prog) 62 45 Try.underlying62 hi q1 (k := k) (by omega)
  obtain ⟨A2, c2, s2⟩ := cut_lo (P := Try.prog) 62 45 Try.underlying62 hi hsz q1 (k := k + 1) (by omega)
  refine ⟨A, n, c, hc, ⟨lg, by simp⟩, _, _, _, fun w' _ => c1 w', g, 0, rfl, A, n, c, hc, ⟨lg, by simp⟩, _, _, _, fun w' _ => by rw [wrap_in (by omega)]; exact c2 w', ?_⟩
  intro g19 hg19 w2 f2 b2 lo t2
  have f12 : Fr (fun _ => False) w1 w2 := (Fr.refl _ _).step b2
  obtain ⟨w3, A3, n3, c3, hr3, b3, o3, tl3⟩ := app_empty t2 lo (s1.below b2) (by omega)
  have n3l := o3.sl.len
  have B3 := b2.trans (b3.mono b2.size)
  refine ⟨w3, A3, n3, c3, hr3, ok_ret b3 f2, keep_below b3 (Nat.le_trans b1.size b2.size), ?_⟩
  obtain ⟨w4, A4, n4, c4, hr4, o4, gr4, tl4⟩ := own_app (P := Try.prog) o3 62 62 ZS 24 Try.underlying62 info2 rfl (s2.below B3).arg B3.size (by simp; omega) (by simp; omega)
  have f4 : Fr (fun _ => False) w1 w4 := grown_fr (B := 0) gr4 (f12.step b3) fun j hj => (tail_base o3 hj).2.1
  have f04 : Fr (fun b => b ∈ [g]) w w4 := f1.trans f4 (fun _ _ h => h) (fun _ _ (h : False) => h.elim)
  have k4 := stk_below (fr_below f4)
  have hv4 : Vw w4 (.slice A4 n4 c4) (goneV xss k) := ⟨_, own_still o4 (by decide), (Al.take (q2.stk k4) k).append (Al.drop (q2.stk k4) (k + 1))⟩
  have lt19 := heap_lt t2
  have lo3 := b3.size
  refine ⟨w4, A4, n4, c4, hr4, ⟨f04, grown_mild gr4 fun b hb he => ?_⟩, g, 0, rfl, ?_⟩
  · have := tl3 b he.symm; simp at hb; omega
  obtain ⟨w5, hr5, f5, h5, -⟩ := (h1.below (fr_below f4)).way hv4 (Nat.le_trans (gone_len _) h.len) (fun xs hx => h.small xs (gone_mem hx))
  have f05 := f04.trans f5 (fun _ _ h => h) (fun _ _ h => h)
  have lo1 := b1.size
  exact ⟨w5, hr5, ⟨f05, f5.size, fun b hb hl' => f5.block b hl' fun hm => by simp at hb hm; omega⟩, h5, f05, rfl⟩
theorem RNet.loc {g2 : Nat} (h : RNet w g B xss ts) (f : Fr (fun b => b ∈ [g2]) w w') (h2 : ∃ C fr, w.heap[g2]? = some (.cells C TF fr)) (hn : g2 ≠ g) : RNet w' g B xss ts := by
  obtain ⟨C, fr, h2⟩ := h2
  refine h.keep (f.block g h.lt fun hm => ?_) (stk_fr f fun b hb => ?_)
  · simp at hm; exact hn hm.symm
  · simp at hb; subst hb; exact not_still h2 (.inr (.inr (.inr (.inr rfl))))
set_option maxHeartbeats 4000000 in
theorem rDeliver (h : RNet w g B xss ts) (hB : B < 1000000) (i : Int) : Calls Try.prog 52 #[Np g, .int .i64 i] w fun e w' => FrR w.heap.size (atV xss i) e w' ∧ RNet w' g (B + 1) (deliverV (xss, ts) i).1 (deliverV (xss, ts) i).2 ∧ Fr (fun b => b ∈ [g]) w w' := by
  have lg := h.lt
  refine rnDeliver_sx _ (fun b => b ∈ [g]) w _ i ?_
  intro g2 hg2 w1 f1 b1 lo2 t2
  have h1 := h.below b1
  have lt2 := heap_lt t2
  refine (rAt h1 i).mono ?_
  rintro e w2 ⟨⟨A2, m2, c2, rfl, s2⟩, b2⟩
  have h2 := h1.below b2
  have f2 := f1.step b2
  have b02 := b1.trans (b2.mono b1.size)
  have t22 := (b2.block g2 lt2).trans t2
  have hw1 := b1.size
  have hw2 := b2.size
  refine ⟨_, _, _, _, _, _, A2, m2, c2, _, rfl, ok_ret b2 f1, ?_⟩
  intro g13 hg13
  refine ⟨fun h1 w3 f3 q3 lo13 t13 => ?_, fun hne w3 f3 b3 lo13 t13 => ?_⟩
  · have hd : deliverV (xss, ts) i = (xss, ts) := by unfold deliverV; rw [if_pos h1]
    rw [hd]
    exact ⟨⟨A2, m2, c2, rfl, s2.mono fun b hb hl => ⟨Nat.le_trans b1.size hb, q3.block b hl fun hm => by simp at hm; omega⟩⟩, (h2.loc q3 ⟨_, _, t22⟩ (by omega)).more (by omega), f3⟩
  have hin : inV xss i = true := by
    cases hb : inV xss i with
    | true => rfl
    | false => exact absurd ((at_code xss i).2 hb) hne
  obtain ⟨k, rfl, hk⟩ := in_nat hin
  have h3 := h2.below b3
  have hw3 := b3.size
  refine (rGone h3 k hk).mono ?_
  rintro e w4 ⟨h4, f34, rfl⟩
  have f4 := f3.trans f34 (fun _ _ h => h) (fun _ _ h => h)
  have hw4 := f34.size
  have main : ∀ kk : Nat, kk < 6 → (kk : Int) = (if (atV xss (k : Int)).2 = 2 then 3 else 2) → ∀ w5 : World, Fr (fun b => b ∈ [g]) w w5 → Below w4.heap.size w4 w5 → ∃ i17 : Int, CellsAt w5 g (kk + 1) [.int .i64 i17] ∧ (g < w4.heap.size ∧ g ∉ []) ∧
      (∃ p18 : Nat, ∃ o19 : Nat, (Value.pointer (some ⟨g, 0, none⟩)) = .pointer (some ⟨p18, o19, none⟩) ∧
      (∃ w6 : World, (Instr.storeAt 3 (.pointer (some ⟨p18, o19 + (kk + 1), none⟩)) (.int .i64 (IntKind.i64.wrap (i17 + (1 : Int))))).run Try.prog w5 = .ok () w6 ∧ (Fr (fun b => b ∈ [g]) w w6 ∧ Mild [g13, g2] w5 w6) ∧
      (∀ w7 : World, Fr (fun b => b ∈ [g]) w w7 → Fr (fun b => b ∈ [g2]) w6 w7 → FrR w.heap.size (atV xss (k : Int)) (.returned (.tuple #[.agg #[.int .i64 (atV xss (k : Int)).1.kd, .int .i64 (atV xss (k : Int)).1.fr, .int .i64 (atV xss (k : Int)).1.to, .int .i64 (atV xss (k : Int)).1.ep, .int .i64 (atV xss (k : Int)).1.sq, .int .i64 (atV xss (k : Int)).1.ak, .slice A2 m2 c2], .int .i64 (atV xss (k : Int)).2])) w7 ∧
        RNet w7 g (B + 1) (deliverV (xss, ts) (k : Int)).1 (deliverV (xss, ts) (k : Int)).2 ∧ Fr (fun b => b ∈ [g]) w w7))) := by
    intro kk hkk ek w5 f5 b5
    have h5 := h4.below b5
    have hw5 := b5.size
    obtain ⟨w6, hr6, f6, h6⟩ := h5.tick hB kk hkk
    have hw6 := f6.size
    refine ⟨_, h5.at_t kk hkk, ⟨h4.lt, by simp⟩, g, 0, rfl, w6, by rw [Nat.zero_add]; exact hr6, ⟨f5.trans f6 (fun _ _ h => h) (fun _ _ h => h), f6.size, fun b hb hl => f6.block b hl fun hm => by simp at hb hm; omega⟩, fun w7 f7 q7 => ?_⟩
    have hd : deliverV (xss, ts) (k : Int) = (goneV xss k, addV ts kk 1) := by unfold deliverV; rw [if_neg hne, ek]
    rw [hd]
    have t26 : w6.heap[g2]? = w2.heap[g2]? := by
      rw [f6.block g2 (by omega) (fun hm => by simp at hm; omega), b5.block g2 (by omega), f34.block g2 (by omega) (fun hm => by simp at hm; omega), b3.block g2 (by omega)]
    refine ⟨⟨A2, m2, c2, rfl, s2.mono fun b hb hl => ⟨Nat.le_trans b1.size hb, ?_⟩⟩, h6.loc q7 ⟨_, _, t26.trans t22⟩ (by omega), f7⟩
    rw [q7.block b (by omega) (fun hm => by simp at hm; omega), f6.block b (by omega) (fun hm => by simp at hm; omega), b5.block b (by omega), f34.block b (by omega) (fun hm => by simp at hm; omega), b3.block b (by omega)]
  have hcode : (atV xss (k : Int)).2 = 0 ∨ (atV xss (k : Int)).2 = 2 := by unfold atV; rw [if_pos hin]; exact take_code _
  refine ⟨rfl, ⟨f4, f34.size, fun b hb hl => f34.block b hl fun hm => by simp at hb hm; omega⟩, fun h0 => ⟨g, 0, rfl, main 2 (by decide) (by rw [if_neg (by omega)]; rfl)⟩, fun h0 => ⟨g, 0, rfl, main 3 (by decide) (by rw [if_pos (by omega)]; rfl)⟩⟩
theorem rDrop (h : RNet w g B xss ts) (hB : B < 1000000) (i : Int) : Calls Try.prog 53 #[Np g, .int .i64 i] w fun e w' => RNet w' g (B + 1) (dropV (xss, ts) i).1 (dropV (xss, ts) i).2 ∧ Fr (fun b => b ∈ [g]) w w' ∧ e = .returned (.int .i64 (dropE (xss, ts) i)) := by
  have no : inV xss i = false → RNet w g (B + 1) (dropV (xss, ts) i).1 (dropV (xss, ts) i).2 ∧ Fr (fun b => b ∈ [g]) w w ∧ Ending.returned (.int .i64 (1 : Int)) = .returned (.int .i64 (dropE (xss, ts) i)) := by
    intro hf
    unfold dropV dropE
    simp only [hf]
    exact ⟨h.more (by omega), Fr.refl _ _, rfl⟩
  obtain ⟨A, n, c, hc, hv, hn⟩ := h.cells
  refine rnDrop_sx _ (fun b => b ∈ [g]) w _ i ⟨fun h0 => no (decide_eq_false (by omega)), fun h0 => ⟨g, 0, rfl, A, n, c, hc, fun hge => no (decide_eq_false (by omega)), fun hlt => ?_⟩⟩
  have ht : inV xss i = true := decide_eq_true (by omega)
  obtain ⟨k, rfl, hk⟩ := in_nat ht
  refine (rGone h k hk).mono ?_
  rintro e w1 ⟨h1, f1, rfl⟩
  refine ⟨rfl, ⟨f1, mild_nil f1.size⟩, g, 0, rfl, fun w2 f2 b2 => ?_⟩
  obtain ⟨w3, hr3, f3, h3⟩ := (h1.below b2).tick hB 4 (by decide)
  have f03 := f2.trans f3 (fun _ _ h => h) (fun _ _ h => h)
  refine ⟨_, (h1.below b2).at_t 4 (by decide), ⟨h1.lt, by simp⟩, g, 0, rfl, w3, hr3, ⟨f03, mild_nil f3.size⟩, ?_, f03, ?_⟩
  · unfold dropV; rw [if_pos ht]; exact h3
  · unfold dropE; rw [if_pos ht]
end
end Go.Proofs.Ytdjjfpcfclheiaa
