/- SenderAll: the walk. -/
import Derived.Test.YthfbjapbfhafbaaSenderE
import Derived.Deep.DeepCutAuto
set_option linter.unusedSimpArgs false
set_option linter.unusedVariables false
namespace Go.Proofs.Ythfbjapbfhafbaa
open Go.RowKit Go.Proofs Go.Trc

theorem cell_keep {w w' : World} (hb : Below w.heap.size w w') {p : Addr} {v : Value} (h : w.cell? p = some v) : w'.cell? p = some v := (hb.cell (World.block_lt_of_cell? w p h)).trans h

set_option maxRecDepth 100000 in
set_option maxHeartbeats 4000000 in
theorem senderAll_walk (w : World) (a0 : Int) (b0 : -9223372036854775808 ≤ a0 ∧ a0 ≤ 9223372036854775807) (A1 : Option Addr) (n1 c1 : Nat) (l : List (List UInt8)) (hl : Sl w (fun b => b < w.heap.size) (.slice A1 n1 c1) l) :
    Calls Try.prog 4 #[.int .i64 a0, .slice A1 n1 c1] w fun e w' => e = .returned (.bool true) ∧ Below w.heap.size w w' := by
  obtain ⟨hn1, hn2, hn3⟩ := hl.len_eq
  have HL := Lib.hid hl
  have HN := Lib.hid hn1
  clear hl hn1
  go_enter Try.func4, Try.ntmps4
  go_wp2_with fail
  refine (shown_ok _).mono ?_
  rintro e w1 ⟨rfl, b1⟩
  have B1 := Lib.hid b1
  clear b1
  go_wp2_with fail
  refine (new_all a0 _ b0 (fun x => x ≠ w1.heap.size)).mono ?_
  rintro e w2 ⟨rfl, s2, b2⟩
  have hsb : w.heap.size ≤ w1.heap.size := B1.out.size
  obtain ⟨win, hwin⟩ : ∃ win, win = min (max a0 1) 64 := ⟨_, rfl⟩
  have hw1 : 1 ≤ win := by omega
  rw [← hwin] at s2
  clear hwin
  obtain ⟨sb, hsbe⟩ : ∃ sb, sb = w1.heap.size := ⟨_, rfl⟩
  rw [← hsbe] at s2 hsb ⊢
  have S2 := Lib.hid s2
  have B2 : Hid (Below w.heap.size w w2) := below_then B1.out (by rw [← hsbe]; exact hsb) b2
  clear s2 b2 B1 hsbe
  go_wp2_with fail
  go_loopw [7] (fun i wr => ∃ (k : Nat), k ≤ l.length ∧ k ≤ 100 ∧ i = .int .i64 k ∧ SenderAt wr (fun x => x ≠ sb) sb win k [] ∧ Below w.heap.size w wr)
    (fun i _ => 100 - (intOf i).toNat)
  case atStart => exact ⟨0, Nat.zero_le _, Nat.zero_le _, rfl, S2.out, B2.out⟩
  case round =>
    obtain ⟨k, hkl, hk100, rfl, i5, i7⟩ := hrel
    have HS := Lib.hid i5
    have HB := Lib.hid i7
    have hsz := i7.size
    have hlts := i5.lt
    clear i5 i7
    by_cases hlt : k < l.length ∧ k < 100
    · obtain ⟨hlt, hlt60⟩ := hlt
      obtain ⟨g, o, Ak, ck, hA1, hgl, hcell, hrow⟩ := (HL.out.below HB.out).row k hlt
      subst hA1
      have hlen60 : (cut60 l[k]).length ≤ 60 := by simp [cut60]; omega
      generalize l[k] = r at *
      have HR := Lib.hid hrow
      have hkn : (k : Int) < n1 := by have := HN.out; omega
      have hkn' : k < n1 := by have := HN.out; omega
      have hk0 : (0 : Int) ≤ k := by omega
      have hcell' := cell_alloc hcell
      have hgsb : g ≠ sb := by omega
      clear hrow
      go_wp2_with fail
      refine (short_any _ (fun b => b < w.heap.size) _ r (HR.out.alloc _)).mono ?_
      rintro e w3 ⟨⟨v3, rfl, h3⟩, rfl⟩
      obtain ⟨A3, c3, rfl, _⟩ := id h3
      have H3 := Lib.hid h3
      clear h3
      go_wp2_with (at_builtin; refine wpList_copy_bytes rfl (.tmp 36) (.tmp 41) 29 5 rfl Try.underlying29 bytesInfo rfl rfl H3.out (by omega) _ rfl ?_)
      intro A4 c4 w4 s4 b4 _
      have B4 : Hid (Below wr.heap.size wr w4) := below_new b4
      have S4 := Lib.hid s4
      clear s4 b4
      go_wp2_with fail
      refine (push_any _ (fun x => x ≠ sb) (fun x => True) sb win k [] _ (cut60 r) (HS.out.below B4.out) (S4.out.weaken fun _ _ _ => trivial) (by simp) (fun x hx => by have h1 := B4.out.size; omega) (by simp) (by omega) (by omega)).mono ?_
      rintro e w5 ⟨rfl, s5, g5⟩
      have p1 : pushN win (k : Int) [] = (k : Int) + 1 := by unfold pushN; rw [if_pos (by simp; omega)]; simp
      have p2 : pushE win [] = 0 := by unfold pushE; rw [if_pos (by simp; omega)]
      have p3 : pushK win [] (cut60 r) = [cut60 r] := by unfold pushK; rw [if_pos (by simp; omega)]; rfl
      rw [p3] at s5
      rw [p1, p2]
      have B5 : Hid (Below w.heap.size w w5) := below_sender (below_then HB.out hsz B4.out) hsb (Nat.le_trans hsz B4.out.size) g5
      have S5 := Lib.hid s5
      have hcell5 : w5.cell? ⟨g, o + k, none⟩ = some (.slice Ak r.length ck) := (g5.cell (cell_keep B4.out hcell) (fun e => by injection e with e; simp only at e; omega))
      have hrow5 : Hid (Sl w5 (fun b => b < w.heap.size) (.slice Ak r.length ck) r) := Lib.hid ((HR.out.below B4.out).grown g5 (fun b hb e => by injection e with e; omega))
      have hcr : (cut60 r).length = (cut60 r).length := rfl
      obtain ⟨cr, hcre⟩ : ∃ cr, cr = cut60 r := ⟨_, rfl⟩
      rw [← hcre] at S5 hlen60
      have HCR := Lib.hid hcre
      clear s5 g5 HS HB HR hcell hcell' p1 p2 p3 S4 H3 B4 hcr hcre
      have q2 : bodyOk (k : Int) [cr] ((k : Int) + 1) = true := by simp [bodyOk]; omega
      have q1 : bodyL (k : Int) [cr] ((k : Int) + 1) = cr := by unfold bodyL; rw [q2, if_pos rfl, show ((k : Int) + 1 - k - 1).toNat = 0 by omega]; rfl
      go_wp2_with fail
      refine (body_any _ (fun x => x ≠ sb) sb win k ((k : Int) + 1) [cr] S5.out (by simp) (by omega) (by simp; omega)).mono ?_
      rintro e w6 ⟨⟨Ab, cb, rfl, sb1⟩, bb⟩
      rw [q1] at sb1 ⊢
      rw [q2]
      have B6 := Lib.hid (below_then B5.out B5.out.size bb)
      have S6 := Lib.hid (S5.out.below bb)
      have hsb5 := S5.out.lt
      have SB6 : Hid (Sl w6 (fun x => x ≠ sb) (.slice Ab cr.length cb) cr) := Lib.hid (sb1.weaken fun x hx _ => by omega)
      have hcell6 := cell_keep bb hcell5
      have hrow6 := Lib.hid (hrow5.out.below bb)
      clear sb1 bb S5 B5 hcell5 hrow5 q1 q2 hsb5
      go_wp2_with fail
      refine (due_all _ (fun x => x ≠ sb) sb win k [cr] S6.out (by simp) (by omega)).mono ?_
      rintro e w7 ⟨Ad, cd, rfl, sd, bd⟩
      have d1 : dueOf (k : Int) [cr].length = [(k : Int) + 1] := by simp [dueOf]
      rw [d1] at sd ⊢
      simp only [List.length_cons, List.length_nil, Nat.zero_add] at sd ⊢
      have B7 := Lib.hid (below_then B6.out B6.out.size bd)
      have S7 := Lib.hid (S6.out.below bd)
      have SB7 := Lib.hid (SB6.out.below bd)
      have hcell7 := cell_keep bd hcell6
      have hrow7 := Lib.hid (hrow6.out.below bd)
      have hsb6 := S6.out.lt
      obtain ⟨gd, od, hAd, hgd, hcd⟩ := sd.ints (by simp)
      subst hAd
      have hd7 : w7.cell? ⟨gd, od, none⟩ = some (.int .i64 ((k : Int) + 1)) := (hcd 0 (by simp)).1
      have hgdsb : gd ≠ sb := by omega
      clear sd bd hcd d1 S6 B6 SB6 hcell6 hrow6 hsb6
      go_wp2_with fail
      have hS : w7.drew.cell? ⟨g, o + k, none⟩ = some (.slice Ak r.length ck) ∧ w7.drew.cell? ⟨gd, od, none⟩ = some (.int .i64 ((k : Int) + 1)) ∧ Sl w7.drew (fun x => x ≠ sb) (.slice Ab cr.length cb) cr :=
        ⟨hcell7, hd7, SB7.out⟩
      have hw1' : IntKind.i64.wrap ((k : Int) + 1) = (k : Int) + 1 := Go.IntWalk.i64_in _ (by omega)
      have hw2' : IntKind.i64.wrap ((k : Int) + 1 + 1) = (k : Int) + 1 + 1 := Go.IntWalk.i64_in _ (by omega)
      have f1 : ackE (k : Int) [cr] ((k : Int) + 1) = 0 := by simp [ackE, ackOk]; omega
      have f3 : ackA (k : Int) [cr] ((k : Int) + 1) = (k : Int) + 1 := by simp [ackA, ackOk]; omega
      have f5 : ackK (k : Int) [cr] ((k : Int) + 1) = [] := by unfold ackK; rw [if_pos (by simp [ackOk]; omega), show ((k : Int) + 1 - k).toNat = 1 by omega]; rfl
      refine wp_regionF (fun w' => w'.cell? ⟨g, o + k, none⟩ = some (.slice Ak r.length ck) ∧ w'.cell? ⟨gd, od, none⟩ = some (.int .i64 ((k : Int) + 1)) ∧ Sl w' (fun x => x ≠ sb) (.slice Ab cr.length cb) cr) [] (by kernel_rfl) ?_
      refine wpF_take0 0 rfl (by kernel_rfl) (by kernel_rfl) (by kernel_rfl) (by kernel_rfl) no_panic (.inr hS) rfl ?_
      apply Exists.intro; refine ⟨fun w' => ?_, ?_⟩
      · go_simp; (try with_reducible rfl)
      simp only [Act.put, List.setIfInBounds_toArray, List.set_cons_zero, List.set_cons_succ, List.getElem_toArray, List.getElem_cons_zero, List.getElem_cons_succ]
      refine wpF_take0 1 rfl (by kernel_rfl) (by kernel_rfl) (by kernel_rfl) (by kernel_rfl) no_panic (.inr hS) rfl ?_
      apply Exists.intro; refine ⟨fun w' => ?_, ?_⟩
      · go_simp; (try with_reducible rfl)
      simp only [Act.put, List.setIfInBounds_toArray, List.set_cons_zero, List.set_cons_succ, List.getElem_toArray, List.getElem_cons_zero, List.getElem_cons_succ]
      refine wpF_take0 2 rfl (by kernel_rfl) (by kernel_rfl) (by kernel_rfl) (by kernel_rfl) no_panic (.inr hS) rfl ?_
      apply Exists.intro; refine ⟨fun w' => ?_, ?_⟩
      · go_simp; (try with_reducible rfl)
      simp only [Act.put, List.setIfInBounds_toArray, List.set_cons_zero, List.set_cons_succ, List.getElem_toArray, List.getElem_cons_zero, List.getElem_cons_succ]
      refine wpF_take0 3 rfl (by kernel_rfl) (by kernel_rfl) (by kernel_rfl) (by kernel_rfl) no_panic (.inr hS) rfl ?_
      apply Exists.intro; refine ⟨fun w' => ?_, ?_⟩
      · go_simp; (try with_reducible rfl)
      simp only [Act.put, List.setIfInBounds_toArray, List.set_cons_zero, List.set_cons_succ, List.getElem_toArray, List.getElem_cons_zero, List.getElem_cons_succ]
      refine wpF_take0 4 rfl (by kernel_rfl) (by kernel_rfl) (by kernel_rfl) (by kernel_rfl) no_panic (.inr hS) rfl ?_
      apply Exists.intro; refine ⟨fun w' => ?_, ?_⟩
      · go_simp; (try with_reducible rfl)
      simp only [Act.put, List.setIfInBounds_toArray, List.set_cons_zero, List.set_cons_succ, List.getElem_toArray, List.getElem_cons_zero, List.getElem_cons_succ]
      refine wpF_take0 5 rfl (by kernel_rfl) (by kernel_rfl) (by kernel_rfl) (by kernel_rfl) no_panic (.inr hS) rfl ?_
      apply Exists.intro; refine ⟨fun w' => ?_, ?_⟩
      · go_simp; (try with_reducible rfl)
      simp only [Act.put, List.setIfInBounds_toArray, List.set_cons_zero, List.set_cons_succ, List.getElem_toArray, List.getElem_cons_zero, List.getElem_cons_succ]
      refine wpF_take0 6 rfl (by kernel_rfl) (by kernel_rfl) (by kernel_rfl) (by kernel_rfl) no_panic (.inr hS) rfl ?_
      apply Exists.intro; refine ⟨fun w' => ?_, ?_⟩
      · go_simp; (try with_reducible rfl)
      simp only [Act.put, List.setIfInBounds_toArray, List.set_cons_zero, List.set_cons_succ, List.getElem_toArray, List.getElem_cons_zero, List.getElem_cons_succ]
      refine wpF_take0 7 rfl (by kernel_rfl) (by kernel_rfl) (by kernel_rfl) (by kernel_rfl) no_panic (.inr hS) rfl ?_
      apply Exists.intro; refine ⟨fun w' => ?_, ?_⟩
      · go_simp; (try with_reducible rfl)
      simp only [Act.put, List.setIfInBounds_toArray, List.set_cons_zero, List.set_cons_succ, List.getElem_toArray, List.getElem_cons_zero, List.getElem_cons_succ]
      refine wpF_take0 8 rfl (by kernel_rfl) (by kernel_rfl) (by kernel_rfl) (by kernel_rfl) no_panic (.inr hS) rfl ?_
      apply Exists.intro; refine ⟨fun w' => ?_, ?_⟩
      · go_simp; (try with_reducible rfl)
      simp only [Act.put, List.setIfInBounds_toArray, List.set_cons_zero, List.set_cons_succ, List.getElem_toArray, List.getElem_cons_zero, List.getElem_cons_succ]
      refine wpF_take0 9 rfl (by kernel_rfl) (by kernel_rfl) (by kernel_rfl) (by kernel_rfl) no_panic (.inr hS) rfl ?_
      apply Exists.intro; refine ⟨fun w' => ?_, ?_⟩
      · go_simp; (try with_reducible rfl)
      simp only [Act.put, List.setIfInBounds_toArray, List.set_cons_zero, List.set_cons_succ, List.getElem_toArray, List.getElem_cons_zero, List.getElem_cons_succ]
      refine wpF_take0 10 rfl (by kernel_rfl) (by kernel_rfl) (by kernel_rfl) (by kernel_rfl) no_panic (.inr hS) rfl ?_
      apply Exists.intro; refine ⟨fun w' => ?_, ?_⟩
      · go_simp; (try with_reducible rfl)
      simp only [Act.put, List.setIfInBounds_toArray, List.set_cons_zero, List.set_cons_succ, List.getElem_toArray, List.getElem_cons_zero, List.getElem_cons_succ]
      refine wpF_take0 11 rfl (by kernel_rfl) (by kernel_rfl) (by kernel_rfl) (by kernel_rfl) no_panic (.inr hS) rfl ?_
      apply Exists.intro; refine ⟨fun w' => ?_, ?_⟩
      · go_simp; (try with_reducible rfl)
      simp only [Act.put, List.setIfInBounds_toArray, List.set_cons_zero, List.set_cons_succ, List.getElem_toArray, List.getElem_cons_zero, List.getElem_cons_succ]
      refine wpF_take0 12 rfl (by kernel_rfl) (by kernel_rfl) (by kernel_rfl) (by kernel_rfl) no_panic (.inr hS) rfl ?_
      apply Exists.intro; refine ⟨fun w' => ?_, ?_⟩
      · go_simp; (try with_reducible rfl)
      simp only [Act.put, List.setIfInBounds_toArray, List.set_cons_zero, List.set_cons_succ, List.getElem_toArray, List.getElem_cons_zero, List.getElem_cons_succ]
      refine wpF_take0 13 rfl (by kernel_rfl) (by kernel_rfl) (by kernel_rfl) (by kernel_rfl) no_panic (.inr hS) rfl ?_
      apply Exists.intro; refine ⟨fun w' => ?_, ?_⟩
      · go_simp; (try with_reducible rfl)
      simp only [Act.put, List.setIfInBounds_toArray, List.set_cons_zero, List.set_cons_succ, List.getElem_toArray, List.getElem_cons_zero, List.getElem_cons_succ]
      refine wpF_take 14 rfl (by kernel_rfl) (by kernel_rfl) (by kernel_rfl) (by kernel_rfl) (by kernel_rfl) no_panic hS rfl ?_
      apply Exists.intro; refine ⟨fun w' hw' => ?_, ?_⟩
      · exact exec_convert 29 9 (.tmp 67) rfl rfl (Sl.string hw'.2.2 29 9 5 Try.underlying29 Try.underlying5 Try.underlying9)
      simp only [Act.put, List.setIfInBounds_toArray, List.set_cons_zero, List.set_cons_succ, List.getElem_toArray, List.getElem_cons_zero, List.getElem_cons_succ]
      refine wpF_take0 15 rfl (by kernel_rfl) (by kernel_rfl) (by kernel_rfl) (by kernel_rfl) no_panic (.inr hS) rfl ?_
      apply Exists.intro; refine ⟨fun w' => ?_, ?_⟩
      · go_simp; (try with_reducible rfl)
      simp only [Act.put, List.setIfInBounds_toArray, List.set_cons_zero, List.set_cons_succ, List.getElem_toArray, List.getElem_cons_zero, List.getElem_cons_succ]
      refine wpF_take0 16 rfl (by kernel_rfl) (by kernel_rfl) (by kernel_rfl) (by kernel_rfl) no_panic (.inr hS) rfl ?_
      apply Exists.intro; refine ⟨fun w' => ?_, ?_⟩
      · go_simp; (try with_reducible rfl)
      simp only [Act.put, List.setIfInBounds_toArray, List.set_cons_zero, List.set_cons_succ, List.getElem_toArray, List.getElem_cons_zero, List.getElem_cons_succ]
      refine wpF_take0 17 rfl (by kernel_rfl) (by kernel_rfl) (by kernel_rfl) (by kernel_rfl) no_panic (.inr hS) rfl ?_
      apply Exists.intro; refine ⟨fun w' => ?_, ?_⟩
      · go_simp; (try with_reducible rfl)
      simp only [Act.put, List.setIfInBounds_toArray, List.set_cons_zero, List.set_cons_succ, List.getElem_toArray, List.getElem_cons_zero, List.getElem_cons_succ]
      refine wpF_take 18 rfl (by kernel_rfl) (by kernel_rfl) (by kernel_rfl) (by kernel_rfl) (by kernel_rfl) no_panic hS rfl ?_
      apply Exists.intro; refine ⟨fun w' hw' => ?_, ?_⟩
      · (try dsimp only at hw'); go_simp; (try with_reducible rfl)
      simp only [Act.put, List.setIfInBounds_toArray, List.set_cons_zero, List.set_cons_succ, List.getElem_toArray, List.getElem_cons_zero, List.getElem_cons_succ]
      refine wpF_do 19 (by kernel_rfl) rfl rfl (fun K hK => ?_)
      go_simp
      refine (short_any _ (fun b => b < w.heap.size) _ r (by exact hrow7.out)).mono ?_
      rintro e w8 ⟨⟨v8, rfl, h8⟩, rfl⟩
      rw [← HCR.out] at h8
      have H8 := Lib.hid h8
      clear h8
      refine hK.out _ _ ?_ (fun hS19 => ?_)
      · exact hS
      clear hK K
      try simp only [Act.put, List.setIfInBounds_toArray, List.set_cons_zero, List.set_cons_succ, List.getElem_toArray, List.getElem_cons_zero, List.getElem_cons_succ]
      refine wpF_do 20 (by kernel_rfl) rfl rfl (fun K hK => ?_)
      refine wp_run (exec_convert 29 9 (.tmp 73) rfl rfl (Sl.string H8.out 29 9 5 Try.underlying29 Try.underlying5 Try.underlying9)) ?_
      refine hK.out _ _ ?_ (fun hS20 => ?_)
      · exact hS19
      clear hK K
      try simp only [Act.put, List.setIfInBounds_toArray, List.set_cons_zero, List.set_cons_succ, List.getElem_toArray, List.getElem_cons_zero, List.getElem_cons_succ]
      refine wpF_take0 21 rfl (by kernel_rfl) (by kernel_rfl) (by kernel_rfl) (by kernel_rfl) no_panic (.inr hS20) rfl ?_
      apply Exists.intro; refine ⟨fun w' => ?_, ?_⟩
      · go_simp; (try with_reducible rfl)
      simp only [Act.put, List.setIfInBounds_toArray, List.set_cons_zero, List.set_cons_succ, List.getElem_toArray, List.getElem_cons_zero, List.getElem_cons_succ]
      refine wpF_take0 22 rfl (by kernel_rfl) (by kernel_rfl) (by kernel_rfl) (by kernel_rfl) no_panic (.inr hS20) rfl ?_
      apply Exists.intro; refine ⟨fun w' => ?_, ?_⟩
      · go_simp; (try with_reducible rfl)
      simp only [Act.put, List.setIfInBounds_toArray, List.set_cons_zero, List.set_cons_succ, List.getElem_toArray, List.getElem_cons_zero, List.getElem_cons_succ]
      refine wpF_take0 23 rfl (by kernel_rfl) (by kernel_rfl) (by kernel_rfl) (by kernel_rfl) no_panic (.inr hS20) rfl ?_
      apply Exists.intro; refine ⟨fun w' => ?_, ?_⟩
      · go_simp; (try with_reducible rfl)
      simp only [Act.put, List.setIfInBounds_toArray, List.set_cons_zero, List.set_cons_succ, List.getElem_toArray, List.getElem_cons_zero, List.getElem_cons_succ]
      refine wpF_take0 24 rfl (by kernel_rfl) (by kernel_rfl) (by kernel_rfl) (by kernel_rfl) no_panic (.inr hS20) rfl ?_
      apply Exists.intro; refine ⟨fun w' => ?_, ?_⟩
      · go_simp; (try with_reducible rfl)
      simp only [Act.put, List.setIfInBounds_toArray, List.set_cons_zero, List.set_cons_succ, List.getElem_toArray, List.getElem_cons_zero, List.getElem_cons_succ]
      refine wpF_take0 25 rfl (by kernel_rfl) (by kernel_rfl) (by kernel_rfl) (by kernel_rfl) no_panic (.inr hS20) rfl ?_
      apply Exists.intro; refine ⟨fun w' => ?_, ?_⟩
      · go_simp; (try with_reducible rfl)
      simp only [Act.put, List.setIfInBounds_toArray, List.set_cons_zero, List.set_cons_succ, List.getElem_toArray, List.getElem_cons_zero, List.getElem_cons_succ]
      refine wpF_take0 26 rfl (by kernel_rfl) (by kernel_rfl) (by kernel_rfl) (by kernel_rfl) no_panic (.inr hS20) rfl ?_
      apply Exists.intro; refine ⟨fun w' => ?_, ?_⟩
      · go_simp; (try with_reducible rfl)
      simp only [Act.put, List.setIfInBounds_toArray, List.set_cons_zero, List.set_cons_succ, List.getElem_toArray, List.getElem_cons_zero, List.getElem_cons_succ]
      refine wpF_take0 27 rfl (by kernel_rfl) (by kernel_rfl) (by kernel_rfl) (by kernel_rfl) no_panic (.inr hS20) rfl ?_
      apply Exists.intro; refine ⟨fun w' => ?_, ?_⟩
      · go_simp; (try with_reducible rfl)
      simp only [Act.put, List.setIfInBounds_toArray, List.set_cons_zero, List.set_cons_succ, List.getElem_toArray, List.getElem_cons_zero, List.getElem_cons_succ]
      refine wpF_take0 28 rfl (by kernel_rfl) (by kernel_rfl) (by kernel_rfl) (by kernel_rfl) no_panic (.inr hS20) rfl ?_
      apply Exists.intro; refine ⟨fun w' => ?_, ?_⟩
      · go_simp; (try with_reducible rfl)
      simp only [Act.put, List.setIfInBounds_toArray, List.set_cons_zero, List.set_cons_succ, List.getElem_toArray, List.getElem_cons_zero, List.getElem_cons_succ]
      refine wpF_take0 29 rfl (by kernel_rfl) (by kernel_rfl) (by kernel_rfl) (by kernel_rfl) no_panic (.inr hS20) rfl ?_
      apply Exists.intro; refine ⟨fun w' => ?_, ?_⟩
      · go_simp; (try with_reducible rfl)
      simp only [Act.put, List.setIfInBounds_toArray, List.set_cons_zero, List.set_cons_succ, List.getElem_toArray, List.getElem_cons_zero, List.getElem_cons_succ]
      refine wpF_take0 30 rfl (by kernel_rfl) (by kernel_rfl) (by kernel_rfl) (by kernel_rfl) no_panic (.inr hS20) rfl ?_
      apply Exists.intro; refine ⟨fun w' => ?_, ?_⟩
      · go_simp; (try with_reducible rfl)
      simp only [Act.put, List.setIfInBounds_toArray, List.set_cons_zero, List.set_cons_succ, List.getElem_toArray, List.getElem_cons_zero, List.getElem_cons_succ]
      refine wpF_take 31 rfl (by kernel_rfl) (by kernel_rfl) (by kernel_rfl) (by kernel_rfl) (by kernel_rfl) no_panic hS20 rfl ?_
      apply Exists.intro; refine ⟨fun w' hw' => ?_, ?_⟩
      · (try dsimp only at hw'); go_simp; (try with_reducible rfl)
      simp only [Act.put, List.setIfInBounds_toArray, List.set_cons_zero, List.set_cons_succ, List.getElem_toArray, List.getElem_cons_zero, List.getElem_cons_succ]
      refine wpF_take0 32 rfl (by kernel_rfl) (by kernel_rfl) (by kernel_rfl) (by kernel_rfl) no_panic (.inr hS20) rfl ?_
      apply Exists.intro; refine ⟨fun w' => ?_, ?_⟩
      · go_simp; (try with_reducible rfl)
      simp only [Act.put, List.setIfInBounds_toArray, List.set_cons_zero, List.set_cons_succ, List.getElem_toArray, List.getElem_cons_zero, List.getElem_cons_succ]
      refine wpF_take0 33 rfl (by kernel_rfl) (by kernel_rfl) (by kernel_rfl) (by kernel_rfl) no_panic (.inr hS20) rfl ?_
      apply Exists.intro; refine ⟨fun w' => ?_, ?_⟩
      · go_simp; (try with_reducible rfl)
      simp only [Act.put, List.setIfInBounds_toArray, List.set_cons_zero, List.set_cons_succ, List.getElem_toArray, List.getElem_cons_zero, List.getElem_cons_succ]
      refine wpF_take0 34 rfl (by kernel_rfl) (by kernel_rfl) (by kernel_rfl) (by kernel_rfl) no_panic (.inr hS20) rfl ?_
      apply Exists.intro; refine ⟨fun w' => ?_, ?_⟩
      · go_simp; (try with_reducible rfl)
      simp only [Act.put, List.setIfInBounds_toArray, List.set_cons_zero, List.set_cons_succ, List.getElem_toArray, List.getElem_cons_zero, List.getElem_cons_succ]
      refine wpF_take0 35 rfl (by kernel_rfl) (by kernel_rfl) (by kernel_rfl) (by kernel_rfl) no_panic (.inr hS20) rfl ?_
      apply Exists.intro; refine ⟨fun w' => ?_, ?_⟩
      · go_simp; (try with_reducible rfl)
      simp only [Act.put, List.setIfInBounds_toArray, List.set_cons_zero, List.set_cons_succ, List.getElem_toArray, List.getElem_cons_zero, List.getElem_cons_succ]
      refine wpF_take0 36 rfl (by kernel_rfl) (by kernel_rfl) (by kernel_rfl) (by kernel_rfl) no_panic (.inr hS20) rfl ?_
      apply Exists.intro; refine ⟨fun w' => ?_, ?_⟩
      · go_simp; (try with_reducible rfl)
      simp only [Act.put, List.setIfInBounds_toArray, List.set_cons_zero, List.set_cons_succ, List.getElem_toArray, List.getElem_cons_zero, List.getElem_cons_succ]
      refine wpF_take0 37 rfl (by kernel_rfl) (by kernel_rfl) (by kernel_rfl) (by kernel_rfl) no_panic (.inr hS20) rfl ?_
      apply Exists.intro; refine ⟨fun w' => ?_, ?_⟩
      · go_simp; (try with_reducible rfl)
      simp only [Act.put, List.setIfInBounds_toArray, List.set_cons_zero, List.set_cons_succ, List.getElem_toArray, List.getElem_cons_zero, List.getElem_cons_succ]
      refine wpF_do 38 (by kernel_rfl) rfl rfl (fun K hK => ?_)
      go_simp
      refine (ack_any _ (fun x => x ≠ sb) sb win k ((k : Int) + 1) [cr] (by exact S7.out) (by simp) (by simp) (by omega)).mono ?_
      rintro e w9 ⟨rfl, s9, g9⟩
      rw [f3, f5] at s9
      rw [f1]
      have G9 : Hid (w7.grownBy w9 (some sb)) := ⟨g9.os, g9.tape, g9.output, g9.size, g9.block⟩
      have S9 := Lib.hid s9
      clear s9 g9
      have B9 : Hid (Below w.heap.size w w9) := below_sender B7.out hsb B7.out.size G9.out
      have SB9 := Lib.hid (SB7.out.grown G9.out (fun b hb e => hb (by injection e)))
      have hcell9 := G9.out.cell hcell7 (fun e => hgsb (by injection e))
      have hd9 := G9.out.cell hd7 (fun e => hgdsb (by injection e))
      refine hK.out _ _ ?_ (fun hS38 => ?_)
      · exact ⟨hcell9, hd9, SB9.out⟩
      clear hK K
      try simp only [Act.put, List.setIfInBounds_toArray, List.set_cons_zero, List.set_cons_succ, List.getElem_toArray, List.getElem_cons_zero, List.getElem_cons_succ]
      refine wpF_take0 39 rfl (by kernel_rfl) (by kernel_rfl) (by kernel_rfl) (by kernel_rfl) no_panic (.inr hS38) rfl ?_
      apply Exists.intro; refine ⟨fun w' => ?_, ?_⟩
      · go_simp; (try with_reducible rfl)
      simp only [Act.put, List.setIfInBounds_toArray, List.set_cons_zero, List.set_cons_succ, List.getElem_toArray, List.getElem_cons_zero, List.getElem_cons_succ]
      refine wpF_take0 40 rfl (by kernel_rfl) (by kernel_rfl) (by kernel_rfl) (by kernel_rfl) no_panic (.inr hS38) rfl ?_
      apply Exists.intro; refine ⟨fun w' => ?_, ?_⟩
      · go_simp; (try with_reducible rfl)
      simp only [Act.put, List.setIfInBounds_toArray, List.set_cons_zero, List.set_cons_succ, List.getElem_toArray, List.getElem_cons_zero, List.getElem_cons_succ]
      refine wpF_take0 41 rfl (by kernel_rfl) (by kernel_rfl) (by kernel_rfl) (by kernel_rfl) no_panic (.inr hS38) rfl ?_
      apply Exists.intro; refine ⟨fun w' => ?_, ?_⟩
      · go_simp; (try with_reducible rfl)
      simp only [Act.put, List.setIfInBounds_toArray, List.set_cons_zero, List.set_cons_succ, List.getElem_toArray, List.getElem_cons_zero, List.getElem_cons_succ]
      refine wpF_take0 42 rfl (by kernel_rfl) (by kernel_rfl) (by kernel_rfl) (by kernel_rfl) no_panic (.inr hS38) rfl ?_
      apply Exists.intro; refine ⟨fun w' => ?_, ?_⟩
      · go_simp; (try with_reducible rfl)
      simp only [Act.put, List.setIfInBounds_toArray, List.set_cons_zero, List.set_cons_succ, List.getElem_toArray, List.getElem_cons_zero, List.getElem_cons_succ]
      refine wpF_do 43 (by kernel_rfl) rfl rfl (fun K hK => ?_)
      go_simp
      refine (due_all _ (fun x => x ≠ sb) sb win ((k : Int) + 1) [] (by exact S9.out) (by simp) (by omega)).mono ?_
      rintro e w10 ⟨A10, c10, rfl, sd, bd⟩
      simp only [due_len, List.length_nil] at sd ⊢
      have B10 := Lib.hid (below_then B9.out B9.out.size bd)
      have S10 := Lib.hid (S9.out.below bd)
      have SB10 := Lib.hid (SB9.out.below bd)
      have hcell10 := cell_keep bd hcell9
      have hd10 := cell_keep bd hd9
      clear sd bd
      refine hK.out _ _ ?_ (fun hS43 => ?_)
      · exact ⟨hcell10, hd10, SB10.out⟩
      clear hK K
      try simp only [Act.put, List.setIfInBounds_toArray, List.set_cons_zero, List.set_cons_succ, List.getElem_toArray, List.getElem_cons_zero, List.getElem_cons_succ]
      refine wpF_take0 44 rfl (by kernel_rfl) (by kernel_rfl) (by kernel_rfl) (by kernel_rfl) no_panic (.inr hS43) rfl ?_
      apply Exists.intro; refine ⟨fun w' => ?_, ?_⟩
      · go_simp; (try with_reducible rfl)
      simp only [Act.put, List.setIfInBounds_toArray, List.set_cons_zero, List.set_cons_succ, List.getElem_toArray, List.getElem_cons_zero, List.getElem_cons_succ]
      refine wpF_take0 45 rfl (by kernel_rfl) (by kernel_rfl) (by kernel_rfl) (by kernel_rfl) no_panic (.inr hS43) rfl ?_
      apply Exists.intro; refine ⟨fun w' => ?_, ?_⟩
      · go_simp; (try with_reducible rfl)
      simp only [Act.put, List.setIfInBounds_toArray, List.set_cons_zero, List.set_cons_succ, List.getElem_toArray, List.getElem_cons_zero, List.getElem_cons_succ]
      refine wpF_take0 46 rfl (by kernel_rfl) (by kernel_rfl) (by kernel_rfl) (by kernel_rfl) no_panic (.inr hS43) rfl ?_
      apply Exists.intro; refine ⟨fun w' => ?_, ?_⟩
      · go_simp; (try with_reducible rfl)
      simp only [Act.put, List.setIfInBounds_toArray, List.set_cons_zero, List.set_cons_succ, List.getElem_toArray, List.getElem_cons_zero, List.getElem_cons_succ]
      refine wpF_take0 47 rfl (by kernel_rfl) (by kernel_rfl) (by kernel_rfl) (by kernel_rfl) no_panic (.inr hS43) rfl ?_
      apply Exists.intro; refine ⟨fun w' => ?_, ?_⟩
      · go_simp; (try with_reducible rfl)
      simp only [Act.put, List.setIfInBounds_toArray, List.set_cons_zero, List.set_cons_succ, List.getElem_toArray, List.getElem_cons_zero, List.getElem_cons_succ]
      refine wpF_take0 48 rfl (by kernel_rfl) (by kernel_rfl) (by kernel_rfl) (by kernel_rfl) no_panic (.inr hS43) rfl ?_
      apply Exists.intro; refine ⟨fun w' => ?_, ?_⟩
      · go_simp; (try with_reducible rfl)
      simp only [Act.put, List.setIfInBounds_toArray, List.set_cons_zero, List.set_cons_succ, List.getElem_toArray, List.getElem_cons_zero, List.getElem_cons_succ]
      refine wpF_take0 50 rfl (by kernel_rfl) (by kernel_rfl) (by kernel_rfl) (by kernel_rfl) no_panic (.inr hS43) rfl ?_
      apply Exists.intro; refine ⟨fun w' => ?_, ?_⟩
      · go_simp; (try with_reducible rfl)
      simp only [Act.put, List.setIfInBounds_toArray, List.set_cons_zero, List.set_cons_succ, List.getElem_toArray, List.getElem_cons_zero, List.getElem_cons_succ]
      refine wpF_take0 51 rfl (by kernel_rfl) (by kernel_rfl) (by kernel_rfl) (by kernel_rfl) no_panic (.inr hS43) rfl ?_
      apply Exists.intro; refine ⟨fun w' => ?_, ?_⟩
      · go_simp; (try with_reducible rfl)
      simp only [Act.put, List.setIfInBounds_toArray, List.set_cons_zero, List.set_cons_succ, List.getElem_toArray, List.getElem_cons_zero, List.getElem_cons_succ]
      refine wpF_do 49 (by kernel_rfl) rfl rfl (fun K hK => ?_)
      go_simp
      refine (next_all _ (fun x => x ≠ sb) sb win ((k : Int) + 1) [] (by exact S10.out) (by simp) (by omega)).mono ?_
      rintro e w11 ⟨rfl, nq, rfl⟩
      simp only [List.length_nil, Int.ofNat_zero, Int.add_zero]
      refine hK.out _ _ ?_ (fun hS49 => ?_)
      · exact ⟨hcell10, hd10, SB10.out⟩
      clear hK K
      try simp only [Act.put, List.setIfInBounds_toArray, List.set_cons_zero, List.set_cons_succ, List.getElem_toArray, List.getElem_cons_zero, List.getElem_cons_succ]
      refine wpF_take0 52 rfl (by kernel_rfl) (by kernel_rfl) (by kernel_rfl) (by kernel_rfl) no_panic (.inr hS49) rfl ?_
      apply Exists.intro; refine ⟨fun w' => ?_, ?_⟩
      · go_simp; (try with_reducible rfl)
      simp only [Act.put, List.setIfInBounds_toArray, List.set_cons_zero, List.set_cons_succ, List.getElem_toArray, List.getElem_cons_zero, List.getElem_cons_succ]
      refine wpF_take0 53 rfl (by kernel_rfl) (by kernel_rfl) (by kernel_rfl) (by kernel_rfl) no_panic (.inr hS49) rfl ?_
      apply Exists.intro; refine ⟨fun w' => ?_, ?_⟩
      · go_simp; (try with_reducible rfl)
      simp only [Act.put, List.setIfInBounds_toArray, List.set_cons_zero, List.set_cons_succ, List.getElem_toArray, List.getElem_cons_zero, List.getElem_cons_succ]
      refine wpF_done (by kernel_rfl) (NoPanic.normal ?_)
      have S11 : Hid (SenderAt (w10.drewN nq) (fun x => x ≠ sb) sb win ((k : Int) + 1) []) := Lib.hid (S10.out.drawn nq)
      have B11 : Hid (Below w.heap.size w (w10.drewN nq)) := ⟨B10.out.os, B10.out.tape, B10.out.output, B10.out.size, B10.out.block⟩
      have q2 : bodyOk ((k : Int) + 1) [] ((k : Int) + 1) = false := by simp [bodyOk]
      clear hS hcell7 hd7 SB7 hrow7 f1 f3 f5
      go_wp2_with fail
      refine (body_any _ (fun x => x ≠ sb) sb win ((k : Int) + 1) ((k : Int) + 1) [] S11.out (by simp) (by omega) (by simp)).mono ?_
      rintro e w12 ⟨⟨Ae, ce, rfl, _⟩, be⟩
      rw [q2]
      have B12 := Lib.hid (below_then B11.out B11.out.size be)
      have S12 := Lib.hid (S11.out.below be)
      clear be
      go_wp2_with fail
      go_roundw
      case rel => exact ⟨k + 1, by omega, by omega, by go_num, S12.out, B12.out⟩
      case measure => simp [intOf]; omega
    · by_cases h1 : k < l.length
      · have h2 : ¬ (k : Int) < 100 := by omega
        have h3 : (k : Int) < n1 := by have := HN.out; omega
        clear hlt h1
        go_wp2_with fail
        go_ret
        exact ⟨rfl, HB.out⟩
      · have h2 : ¬ (k : Int) < n1 := by have := HN.out; omega
        clear hlt h1
        go_wp2_with fail
        go_ret
        exact ⟨rfl, HB.out⟩
end Go.Proofs.Ythfbjapbfhafbaa
