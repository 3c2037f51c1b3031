/- SenderKeeps: the walk. -/
import Derived.Test.YthfbjapbfhafbaaSenderE
import Derived.Deep.DeepCutAuto
set_option linter.unusedSimpArgs false
set_option linter.unusedVariables false
namespace Go.Proofs.Ythfbjapbfhafbaa
open Go.RowKit Go.Proofs Go.Trc

/-- What holds at the head of each round. -/
def KeepsInv (w wr : World) (sb : Nat) (win : Int) (k : Nat) (a : Nat) (P : List (List UInt8)) (v : Value) : Prop :=
  a ≤ P.length ∧ P.length ≤ k ∧ ((P.length : Int) - a ≤ win) ∧ Own wr w.heap.size 29 (fun x => x < w.heap.size) v P ∧ SenderAt wr (fun x => x ≠ sb ∧ some x ≠ v.ownBlock) sb win a (P.drop a) ∧
    (∀ r ∈ P, r.length ≤ 60) ∧ Below w.heap.size w wr

theorem and15 (x : Int) : 0 ≤ bits .and .i64 x 15 ∧ bits .and .i64 x 15 ≤ 15 := by
  show 0 ≤ IntKind.i64.wrap ((BitVec.ofInt 64 x &&& BitVec.ofInt 64 15).toNat : Int) ∧ IntKind.i64.wrap ((BitVec.ofInt 64 x &&& BitVec.ofInt 64 15).toNat : Int) ≤ 15
  have h : (BitVec.ofInt 64 x &&& BitVec.ofInt 64 15).toNat ≤ 15 := by rw [BitVec.toNat_and]; exact Nat.and_le_right
  rw [Go.IntWalk.i64_in _ (by omega)]
  omega
theorem and7 (x : Int) : 0 ≤ bits .and .i64 x 7 ∧ bits .and .i64 x 7 ≤ 7 := by
  show 0 ≤ IntKind.i64.wrap ((BitVec.ofInt 64 x &&& BitVec.ofInt 64 7).toNat : Int) ∧ IntKind.i64.wrap ((BitVec.ofInt 64 x &&& BitVec.ofInt 64 7).toNat : Int) ≤ 7
  have h : (BitVec.ofInt 64 x &&& BitVec.ofInt 64 7).toNat ≤ 7 := by rw [BitVec.toNat_and]; exact Nat.and_le_right
  rw [Go.IntWalk.i64_in _ (by omega)]
  omega

theorem SenderAt.empty {w : World} {ok : Nat → Prop} {b : Nat} {win acked : Int} (h : SenderAt w ok b win acked []) (ok' : Nat → Prop) : SenderAt w ok' b win acked [] := by
  obtain ⟨v, hv, A, c, rfl, h1, h2, h3, _⟩ := h
  exact ⟨_, hv, A, c, rfl, h1, h2, h3, fun hp => absurd hp (Nat.lt_irrefl 0)⟩

theorem sender_append {w w' : World} {base sb N : Nat} {win acked : Int} {kept : List (List UInt8)} {ok : Nat → Prop} {v v' : Value} {P : List (List UInt8)} (hs : SenderAt w (fun x => x ≠ sb ∧ some x ≠ v.ownBlock) sb win acked kept)
    (h : Own w base 29 ok v P) (hg : w.grownBy w' v.ownBlock) (hv : v'.ownBlock = v.ownBlock ∨ v'.ownBlock = some N) (hN : w.heap.size ≤ N) :
    SenderAt w' (fun x => x ≠ sb ∧ some x ≠ v'.ownBlock) sb win acked kept := by
  have hne : some sb ≠ v.ownBlock := by
    obtain ⟨cs, h1, _, _⟩ := h
    obtain ⟨u, hu, _⟩ := hs
    rcases h1.2 with ⟨rfl, _⟩ | ⟨g, cap, cur, rfl, _, hg', _⟩
    · simp [Value.ownBlock]
    · intro e
      simp only [Value.ownBlock, Option.some.injEq] at e
      subst e
      rw [hg'] at hu
      simp at hu
  refine hs.weaken (hg.block sb hs.lt hne) fun x hx hl => ⟨⟨hx.1, ?_⟩, hg.block x hl hx.2⟩
  rcases hv with hv | hv
  · rw [hv]; exact hx.2
  · rw [hv]; intro e; injection e with e; omega

theorem cell_below {w w' : World} (hb : Below w.heap.size w w') {p : Addr} {v : Value} (h : w.cell? p = some v) : w'.cell? p = some v := (hb.cell (World.block_lt_of_cell? w p h)).trans h

/-- A row of one's own, behind a call that turned a sender. -/
theorem own_sender {w w' : World} {base sb : Nat} {okS : Nat → Prop} {win acked : Int} {kept : List (List UInt8)} {v : Value} {P : List (List UInt8)} (h : Own w base 29 (fun x => x < base) v P) (hg : w.grownBy w' (some sb))
    (hs : SenderAt w okS sb win acked kept) (hsb : base ≤ sb) : Own w' base 29 (fun x => x < base) v P := by
  refine h.mono hg ?_ fun b hb _ => ⟨hb, fun e => by injection e with e; omega⟩
  obtain ⟨cs, h1, _, _⟩ := h
  obtain ⟨u, hu, _⟩ := hs
  rcases h1.2 with ⟨rfl, _⟩ | ⟨g, cap, cur, rfl, _, hg', _⟩
  · exact .inl rfl
  · refine .inr fun e => ?_
    simp only [Value.ownBlock, Option.some.injEq] at e
    subst e
    rw [hg'] at hu
    simp at hu

set_option maxRecDepth 100000 in
set_option maxHeartbeats 4000000 in
theorem senderKeeps_walk (w : World) (a0 : Int) (b0 : -9223372036854775808 ≤ a0 ∧ a0 ≤ 9223372036854775807) (A1 : Option Addr) (n1 c1 : Nat) (l : List (List UInt8)) (hl : Sl w (fun b => b < w.heap.size) (.slice A1 n1 c1) l)
    (a2 : Int) (b2 : -9223372036854775808 ≤ a2 ∧ a2 ≤ 9223372036854775807) :
    Calls Try.prog 3 #[.int .i64 a0, .slice A1 n1 c1, .int .i64 a2] w fun e w' => e = .returned (.bool true) ∧ Below w.heap.size w w' := by
  obtain ⟨hn1, hn2, hn3⟩ := hl.len_eq
  have HL := Lib.hid hl
  have HN := Lib.hid hn1
  clear hl hn1
  have h15 := and15 a0
  have h7 := and7 a2
  go_enter Try.func3, Try.ntmps3
  go_wp2_with fail
  refine (shown_ok _).mono ?_
  rintro e w1 ⟨rfl, b1⟩
  have B1 := Lib.hid b1
  clear b1
  go_wp2_with fail
  generalize bits BinOp.and IntKind.i64 a0 15 = q at *
  generalize bits BinOp.and IntKind.i64 a2 7 = q7 at *
  obtain ⟨win, hwin⟩ : ∃ win : Int, win = 1 + q := ⟨_, rfl⟩
  obtain ⟨kk, hkk⟩ : ∃ kk : Int, kk = 1 + q7 := ⟨_, rfl⟩
  have hw1 : 1 ≤ win ∧ win ≤ 16 := by omega
  have hk1 : 1 ≤ kk ∧ kk ≤ 8 := by omega
  rw [← hwin, ← hkk]
  clear hwin hkk h15 h7
  refine (new_all win _ (by omega) (fun x => x ≠ w1.heap.size)).mono ?_
  rintro e w2 ⟨rfl, s2, b2⟩
  have hmin : min (max win 1) 64 = win := by omega
  rw [hmin] at s2
  have hsb : w.heap.size ≤ w1.heap.size := B1.out.size
  obtain ⟨sb, hsbe⟩ : ∃ sb, sb = w1.heap.size := ⟨_, rfl⟩
  rw [← hsbe] at s2 hsb ⊢
  have S2 := Lib.hid s2
  have B2 : Hid (Below w.heap.size w w2) := below_then B1.out (by rw [← hsbe]; exact hsb) b2
  clear s2 b2 hmin B1 hsbe
  go_wp2_with fail
  go_loopw [11, 12, 13] (fun ac v i wr => ∃ (k a : Nat) (P : List (List UInt8)) (A : Option Addr) (c : Nat), k ≤ l.length ∧ k ≤ 60 ∧ i = .int .i64 k ∧ ac = .int .i64 a ∧ v = .slice A P.length c ∧ KeepsInv w wr sb win k a P (.slice A P.length c))
    (fun _ _ i _ => 60 - (intOf i).toNat)
  case atStart =>
    refine ⟨0, 0, [], _, 0, Nat.zero_le _, by omega, rfl, rfl, rfl, Nat.le_refl _, Nat.le_refl _, by simp; omega, Own.made _ _ _ _ B2.out.size, (S2.out.below ((Below.refl _ _).alloc (Nat.le_refl _) _)).empty _, by simp, B2.out.alloc B2.out.size _⟩
  case round =>
    obtain ⟨k, a, P, A, c, hkl, hk60, rfl, rfl, rfl, i1, i2, i3, i4, i5, i6, i7⟩ := hrel
    have HO := Lib.hid i4
    have HS := Lib.hid i5
    have H6 := Lib.hid i6
    have HB := Lib.hid i7
    have hsz := i7.size
    have hlts := i5.lt
    clear i4 i5 i6 i7
    by_cases hlt : k < l.length ∧ k < 60
    · obtain ⟨hlt, hlt60⟩ := hlt
      obtain ⟨g, o, Ak, ck, hA1, _, hcell, hrow⟩ := (HL.out.below HB.out).row k hlt
      subst hA1
      have hlen60 : (cut60 l[k]).length ≤ 60 := by simp [cut60]; omega
      generalize l[k] = r at *
      have HR := Lib.hid hrow
      have hkn : (k : Int) < n1 := by have := HN.out; omega
      have hkn' : k < n1 := by have := HN.out; omega
      have hk0 : (0 : Int) ≤ k := by omega
      have hcell' := cell_alloc hcell
      clear hrow
      go_wp2_with fail
      refine (short_any _ (fun b => b < w.heap.size) _ r (HR.out.alloc _)).mono ?_
      rintro e w3 ⟨⟨v3, rfl, h3⟩, rfl⟩
      obtain ⟨A3, c3, rfl, _⟩ := id h3
      have H3 := Lib.hid h3
      clear h3
      go_wp2_with (at_builtin; refine wpList_copy_bytes rfl (.tmp 49) (.tmp 54) 29 5 rfl Try.underlying29 bytesInfo rfl rfl H3.out (by omega) _ rfl ?_)
      intro A4 c4 w4 s4 b4 _
      have B4 : Hid (Below wr.heap.size wr w4) := below_new b4
      have S4 := Lib.hid s4
      clear s4 b4
      go_wp2_with fail
      refine (push_any _ (fun x => x ≠ sb ∧ some x ≠ (Value.slice A P.length c).ownBlock) (fun x => True) sb win a (P.drop a) _ (cut60 r) (HS.out.below B4.out) (S4.out.weaken fun _ _ _ => trivial) (by simp) (fun x hx => by have h1 := B4.out.size; refine ⟨by omega, fun e => ?_⟩; have := (HO.out.lt x e.symm).2; omega) (by simp; omega) (by omega) (by omega)).mono ?_
      rintro e w5 ⟨rfl, s5, g5⟩
      have B5 : Hid (Below w.heap.size w w5) := below_sender (below_then HB.out hsz B4.out) hsb (Nat.le_trans hsz B4.out.size) g5
      have S5 := Lib.hid s5
      have O5 : Hid (Own w5 w.heap.size 29 (fun x => x < w.heap.size) (.slice A P.length c) P) := Lib.hid (own_sender (HO.out.below B4.out) g5 (HS.out.below B4.out) hsb)
      have hcell5 : w5.cell? ⟨g, o + k, none⟩ = some (.slice Ak r.length ck) := (g5.cell (cell_below B4.out hcell) (fun e => by injection e with e; simp only at e; omega))
      have hrow5 : Hid (Sl w5 (fun b => b < w.heap.size) (.slice Ak r.length ck) r) := Lib.hid ((HR.out.below B4.out).grown g5 (fun b hb e => by injection e with e; omega))
      have hg5 : w4.heap.size ≤ w5.heap.size := g5.size
      clear s5 g5 HO HS HB HR hcell hcell'
      have hal : a ≤ P.length := i1
      have hdl : (P.drop a).length = P.length - a := by simp
      by_cases hfull : win ≤ (P.length : Int) - a
      · have hd1 : decide (win ≤ (P.length : Int) - a) = true := by simpa using hfull
        have hpe : pushE win (P.drop a) = 20 := by unfold pushE; rw [if_neg (by rw [hdl]; omega)]
        have hpk : pushK win (P.drop a) (cut60 r) = P.drop a := by unfold pushK; rw [if_neg (by rw [hdl]; omega)]
        rw [hpk] at S5
        clear hpk hdl hcell5
        have hle : P.length ≤ k + 1 := by omega
        have hwn : (P.length : Int) - a ≤ win := i3
        have hkk0 : kk ≠ 0 := by omega
        have hap : a < P.length := by omega
        by_cases hm : (k : Int) % kk = 0
        ·
          have e1 : ackOk a (P.drop a) ((a : Int) + 1) = true := by simp [ackOk]; omega
          have e2 : ackOk ((a : Int) + 1) (P.drop (a + 1)) a = false := by simp [ackOk]; omega
          have f1 : ackE a (P.drop a) ((a : Int) + 1) = 0 := by unfold ackE; rw [e1]; rfl
          have f2 : ackE ((a : Int) + 1) (P.drop (a + 1)) a = 22 := by unfold ackE; rw [e2]; rfl
          have f3 : ackA a (P.drop a) ((a : Int) + 1) = (a : Int) + 1 := by unfold ackA; rw [e1]; rfl
          have f4 : ackA ((a : Int) + 1) (P.drop (a + 1)) a = (a : Int) + 1 := by unfold ackA; rw [e2]; rfl
          have f5 : ackK a (P.drop a) ((a : Int) + 1) = P.drop (a + 1) := by unfold ackK; rw [e1, if_pos rfl, List.drop_drop]; congr 1; omega
          have f6 : ackK ((a : Int) + 1) (P.drop (a + 1)) a = P.drop (a + 1) := by unfold ackK; rw [e2]; rfl
          clear e1 e2
          go_wp2_with fail
          refine (ack_any _ (fun x => x ≠ sb ∧ some x ≠ (Value.slice A P.length c).ownBlock) sb win a ((a : Int) + 1) (P.drop a) S5.out (by simp) (by simp; omega) (by omega)).mono ?_
          rintro e w9 ⟨rfl, s9, g9⟩
          rw [f3, f5] at s9
          rw [f1]
          have O9 := Lib.hid (own_sender O5.out g9 S5.out hsb)
          have B9 : Hid (Below w.heap.size w w9) := below_sender B5.out hsb B5.out.size g9
          have S9 := Lib.hid s9
          clear s9 g9 f3 f5
          go_wp2_with fail
          refine (ack_any _ (fun x => x ≠ sb ∧ some x ≠ (Value.slice A P.length c).ownBlock) sb win ((a : Int) + 1) a (P.drop (a + 1)) S9.out (by simp) (by simp; omega) (by omega)).mono ?_
          rintro e w10 ⟨rfl, s10, g10⟩
          rw [f4, f6] at s10
          rw [f2]
          have O10 := Lib.hid (own_sender O9.out g10 S9.out hsb)
          have B10 : Hid (Below w.heap.size w w10) := below_sender B9.out hsb B9.out.size g10
          have S10 := Lib.hid s10
          clear s10 g10 f4 f6 S5 O5 B5 S9 O9 B9
          obtain ⟨aN, haN⟩ : ∃ aN : Nat, aN = a + 1 := ⟨_, rfl⟩
          have haI : (a : Int) + 1 = (aN : Int) := by omega
          rw [haI, ← haN] at S10
          rw [haI]
          have hN1 : aN ≤ P.length := by omega
          have hN2 : (P.length : Int) - aN ≤ win := by omega
          clear haI haN hap hal hwn hm
          go_wp2_with fail
          refine (due_all _ (fun x => x ≠ sb ∧ some x ≠ (Value.slice A P.length c).ownBlock) sb win (aN:Int) (P.drop aN) S10.out (by simp; omega) (by omega)).mono ?_
          rintro e wd ⟨Ad, cd, rfl, sd, bd⟩
          simp only [due_len, List.length_drop] at sd ⊢
          have SD := Lib.hid sd
          have BD := Lib.hid bd
          clear sd bd
          have hm2 : ((P.length - aN : Nat) : Int) = (P.length : Int) - (aN:Int) := by omega
          have hm3 : ¬ win < ((P.length - aN : Nat) : Int) := by omega
          have Sd := Lib.hid (S10.out.below BD.out)
          have Od := Lib.hid (O10.out.below BD.out)
          have Bd := Lib.hid (below_then B10.out B10.out.size BD.out)
          have hdlen : (P.drop aN).length = P.length - aN := by simp
          clear S10 O10 B10 BD
          go_wp2_with fail
          go_loopw [18] (fun jv wj => ∃ j : Nat, j ≤ P.length - aN ∧ jv = .int .i64 j ∧ Below wd.heap.size wd wj) (fun jv _ => (P.length - aN) - (intOf jv).toNat)
          case atStart => exact ⟨0, Nat.zero_le _, rfl, Below.refl _ _⟩
          case round =>
            obtain ⟨j, hj, rfl, hbj⟩ := hrel
            have BJ := Lib.hid hbj
            clear hbj
            by_cases hjl : j < P.length - aN
            · have hjP : aN + j < P.length := by omega
              have hdl2 : (dueOf (aN:Int) (P.length - aN)).length = P.length - aN := due_len _ _
              obtain ⟨gd, od, hAd, _, hcd⟩ := SD.out.ints (by rw [hdl2]; omega)
              subst hAd
              have hcd1 := (hcd j (by rw [hdl2]; omega)).1
              have hdj : (dueOf (aN:Int) (P.length - aN))[j]'(by rw [hdl2]; omega) = (aN:Int) + 1 + j := by simp [dueOf]
              rw [hdj] at hcd1
              have hcj := cell_below BJ.out hcd1
              have x1 : bodyOk (aN:Int) (P.drop aN) ((aN:Int) + 1 + j) = true := by simp [bodyOk]; omega
              have x2 : bodyL (aN:Int) (P.drop aN) ((aN:Int) + 1 + j) = P[aN + j] := by
                unfold bodyL
                rw [x1, if_pos rfl, show ((aN:Int) + 1 + (j : Int) - (aN:Int) - 1).toNat = j by omega, List.getD_eq_getElem?_getD, List.getElem?_drop, List.getElem?_eq_getElem hjP]
                rfl
              obtain ⟨gp, op, Ap, cp, hAp, _, hcp, hrp⟩ := ((Od.out.sl (fun x => True) (fun _ _ => trivial) (fun _ _ h => Rep.mono (fun _ _ _ => ⟨trivial, rfl⟩) h)).below BJ.out).row (aN + j) hjP
              subst hAp
              generalize P[aN + j] = rr at *
              have HRP := Lib.hid hrp
              have hj0 : (0 : Int) ≤ j := by omega
              have hjn : (j : Int) < ((P.length - aN : Nat) : Int) := by omega
              have hx0 : (1 : Int) ≤ (aN:Int) + 1 + j := by omega
              have hx1 : (aN:Int) + 1 + j - 1 < (P.length : Int) := by omega
              have hx2 : ((aN:Int) + 1 + (j : Int) - 1).toNat = aN + j := by omega
              have hw1 : IntKind.i64.wrap ((aN:Int) + 1) = (aN:Int) + 1 := Go.IntWalk.i64_in _ (by omega)
              have hw2 : IntKind.i64.wrap ((aN:Int) + 1 + (j : Int)) = (aN:Int) + 1 + j := Go.IntWalk.i64_in _ (by omega)
              have hw3 : IntKind.i64.wrap ((aN:Int) + 1 + (j : Int) - 1) = (aN:Int) + 1 + j - 1 := Go.IntWalk.i64_in _ (by omega)
              clear hcd hcd1 hdj hrp
              clear hdl2
              go_wp2_with fail
              refine (body_any _ (fun x => x ≠ sb ∧ some x ≠ (Value.slice (some ⟨gp, op, none⟩) P.length c).ownBlock) sb win (aN:Int) ((aN:Int) + 1 + j) (P.drop aN) (Sd.out.below BJ.out) (by simp; omega) (by omega) (fun r' hr' => Nat.le_trans (H6.out r' (List.mem_of_mem_drop hr')) (by omega))).mono ?_
              rintro e wb ⟨⟨Ab, cb, rfl, sb1⟩, bb⟩
              rw [x2] at sb1 ⊢
              rw [x1]
              have SB := Lib.hid sb1
              have BB := Lib.hid bb
              have hcj2 := cell_below bb hcj
              have hcp2 := cell_below bb hcp
              have HRP2 := Lib.hid (HRP.out.below bb)
              clear sb1 bb x1 x2
              go_wp2_with fail
              have hS : wb.drew.cell? ⟨gd, od + j, none⟩ = some (.int .i64 ((aN:Int) + 1 + j)) ∧ wb.drew.cell? ⟨gp, op + (aN + j), none⟩ = some (.slice Ap rr.length cp) ∧ Sl wb.drew (fun _ => True) (.slice Ab rr.length cb) rr ∧ Sl wb.drew (fun _ => True) (.slice Ap rr.length cp) rr :=
                ⟨hcj2, hcp2, SB.out.weaken fun _ _ _ => trivial, HRP2.out⟩
              refine wp_regionF (fun w' => w'.cell? ⟨gd, od + j, none⟩ = some (.int .i64 ((aN:Int) + 1 + j)) ∧ w'.cell? ⟨gp, op + (aN + j), none⟩ = some (.slice Ap rr.length cp) ∧ Sl w' (fun _ => True) (.slice Ab rr.length cb) rr ∧ Sl w' (fun _ => True) (.slice Ap rr.length cp) rr) [] (by kernel_rfl) ?_
              refine wpF_take0 0 rfl (by kernel_rfl) (by kernel_rfl) (by kernel_rfl) (by kernel_rfl) no_panic (.inr hS) rfl ?_
              apply Exists.intro; refine ⟨fun w' => ?_, ?_⟩
              · go_simp; (try with_reducible rfl)
              simp only [Act.put, List.setIfInBounds_toArray, List.set_cons_zero, List.set_cons_succ, List.getElem_toArray, List.getElem_cons_zero, List.getElem_cons_succ]
              refine wpF_take0 1 rfl (by kernel_rfl) (by kernel_rfl) (by kernel_rfl) (by kernel_rfl) no_panic (.inr hS) rfl ?_
              apply Exists.intro; refine ⟨fun w' => ?_, ?_⟩
              · go_simp; (try with_reducible rfl)
              simp only [Act.put, List.setIfInBounds_toArray, List.set_cons_zero, List.set_cons_succ, List.getElem_toArray, List.getElem_cons_zero, List.getElem_cons_succ]
              refine wpF_take0 2 rfl (by kernel_rfl) (by kernel_rfl) (by kernel_rfl) (by kernel_rfl) no_panic (.inr hS) rfl ?_
              apply Exists.intro; refine ⟨fun w' => ?_, ?_⟩
              · go_simp; (try with_reducible rfl)
              simp only [Act.put, List.setIfInBounds_toArray, List.set_cons_zero, List.set_cons_succ, List.getElem_toArray, List.getElem_cons_zero, List.getElem_cons_succ]
              refine wpF_take 3 rfl (by kernel_rfl) (by kernel_rfl) (by kernel_rfl) (by kernel_rfl) (by kernel_rfl) no_panic hS rfl ?_
              apply Exists.intro; refine ⟨fun w' hw' => ?_, ?_⟩
              · (try dsimp only at hw'); go_simp; (try with_reducible rfl)
              simp only [Act.put, List.setIfInBounds_toArray, List.set_cons_zero, List.set_cons_succ, List.getElem_toArray, List.getElem_cons_zero, List.getElem_cons_succ]
              refine wpF_take0 4 rfl (by kernel_rfl) (by kernel_rfl) (by kernel_rfl) (by kernel_rfl) no_panic (.inr hS) rfl ?_
              apply Exists.intro; refine ⟨fun w' => ?_, ?_⟩
              · go_simp; (try with_reducible rfl)
              simp only [Act.put, List.setIfInBounds_toArray, List.set_cons_zero, List.set_cons_succ, List.getElem_toArray, List.getElem_cons_zero, List.getElem_cons_succ]
              refine wpF_take0 5 rfl (by kernel_rfl) (by kernel_rfl) (by kernel_rfl) (by kernel_rfl) no_panic (.inr hS) rfl ?_
              apply Exists.intro; refine ⟨fun w' => ?_, ?_⟩
              · go_simp; (try with_reducible rfl)
              simp only [Act.put, List.setIfInBounds_toArray, List.set_cons_zero, List.set_cons_succ, List.getElem_toArray, List.getElem_cons_zero, List.getElem_cons_succ]
              refine wpF_take0 6 rfl (by kernel_rfl) (by kernel_rfl) (by kernel_rfl) (by kernel_rfl) no_panic (.inr hS) rfl ?_
              apply Exists.intro; refine ⟨fun w' => ?_, ?_⟩
              · go_simp; (try with_reducible rfl)
              simp only [Act.put, List.setIfInBounds_toArray, List.set_cons_zero, List.set_cons_succ, List.getElem_toArray, List.getElem_cons_zero, List.getElem_cons_succ]
              refine wpF_take0 7 rfl (by kernel_rfl) (by kernel_rfl) (by kernel_rfl) (by kernel_rfl) no_panic (.inr hS) rfl ?_
              apply Exists.intro; refine ⟨fun w' => ?_, ?_⟩
              · go_simp; (try with_reducible rfl)
              simp only [Act.put, List.setIfInBounds_toArray, List.set_cons_zero, List.set_cons_succ, List.getElem_toArray, List.getElem_cons_zero, List.getElem_cons_succ]
              refine wpF_take0 8 rfl (by kernel_rfl) (by kernel_rfl) (by kernel_rfl) (by kernel_rfl) no_panic (.inr hS) rfl ?_
              apply Exists.intro; refine ⟨fun w' => ?_, ?_⟩
              · go_simp; (try with_reducible rfl)
              simp only [Act.put, List.setIfInBounds_toArray, List.set_cons_zero, List.set_cons_succ, List.getElem_toArray, List.getElem_cons_zero, List.getElem_cons_succ]
              refine wpF_take0 9 rfl (by kernel_rfl) (by kernel_rfl) (by kernel_rfl) (by kernel_rfl) no_panic (.inr hS) rfl ?_
              apply Exists.intro; refine ⟨fun w' => ?_, ?_⟩
              · go_simp; (try with_reducible rfl)
              simp only [Act.put, List.setIfInBounds_toArray, List.set_cons_zero, List.set_cons_succ, List.getElem_toArray, List.getElem_cons_zero, List.getElem_cons_succ]
              refine wpF_take0 10 rfl (by kernel_rfl) (by kernel_rfl) (by kernel_rfl) (by kernel_rfl) no_panic (.inr hS) rfl ?_
              apply Exists.intro; refine ⟨fun w' => ?_, ?_⟩
              · go_simp; (try with_reducible rfl)
              simp only [Act.put, List.setIfInBounds_toArray, List.set_cons_zero, List.set_cons_succ, List.getElem_toArray, List.getElem_cons_zero, List.getElem_cons_succ]
              refine wpF_take0 11 rfl (by kernel_rfl) (by kernel_rfl) (by kernel_rfl) (by kernel_rfl) no_panic (.inr hS) rfl ?_
              apply Exists.intro; refine ⟨fun w' => ?_, ?_⟩
              · go_simp; (try with_reducible rfl)
              simp only [Act.put, List.setIfInBounds_toArray, List.set_cons_zero, List.set_cons_succ, List.getElem_toArray, List.getElem_cons_zero, List.getElem_cons_succ]
              refine wpF_take0 12 rfl (by kernel_rfl) (by kernel_rfl) (by kernel_rfl) (by kernel_rfl) no_panic (.inr hS) rfl ?_
              apply Exists.intro; refine ⟨fun w' => ?_, ?_⟩
              · go_simp; (try with_reducible rfl)
              simp only [Act.put, List.setIfInBounds_toArray, List.set_cons_zero, List.set_cons_succ, List.getElem_toArray, List.getElem_cons_zero, List.getElem_cons_succ]
              refine wpF_take0 13 rfl (by kernel_rfl) (by kernel_rfl) (by kernel_rfl) (by kernel_rfl) no_panic (.inr hS) rfl ?_
              apply Exists.intro; refine ⟨fun w' => ?_, ?_⟩
              · go_simp; (try with_reducible rfl)
              simp only [Act.put, List.setIfInBounds_toArray, List.set_cons_zero, List.set_cons_succ, List.getElem_toArray, List.getElem_cons_zero, List.getElem_cons_succ]
              refine wpF_take0 14 rfl (by kernel_rfl) (by kernel_rfl) (by kernel_rfl) (by kernel_rfl) no_panic (.inr hS) rfl ?_
              apply Exists.intro; refine ⟨fun w' => ?_, ?_⟩
              · go_simp; (try with_reducible rfl)
              simp only [Act.put, List.setIfInBounds_toArray, List.set_cons_zero, List.set_cons_succ, List.getElem_toArray, List.getElem_cons_zero, List.getElem_cons_succ]
              refine wpF_take 15 rfl (by kernel_rfl) (by kernel_rfl) (by kernel_rfl) (by kernel_rfl) (by kernel_rfl) no_panic hS rfl ?_
              apply Exists.intro; refine ⟨fun w' hw' => ?_, ?_⟩
              · exact exec_convert 29 9 (.tmp 161) rfl rfl (Sl.string hw'.2.2.1 29 9 5 Try.underlying29 Try.underlying5 Try.underlying9)
              simp only [Act.put, List.setIfInBounds_toArray, List.set_cons_zero, List.set_cons_succ, List.getElem_toArray, List.getElem_cons_zero, List.getElem_cons_succ]
              refine wpF_take0 16 rfl (by kernel_rfl) (by kernel_rfl) (by kernel_rfl) (by kernel_rfl) no_panic (.inr hS) rfl ?_
              apply Exists.intro; refine ⟨fun w' => ?_, ?_⟩
              · go_simp; (try with_reducible rfl)
              simp only [Act.put, List.setIfInBounds_toArray, List.set_cons_zero, List.set_cons_succ, List.getElem_toArray, List.getElem_cons_zero, List.getElem_cons_succ]
              refine wpF_take0 17 rfl (by kernel_rfl) (by kernel_rfl) (by kernel_rfl) (by kernel_rfl) no_panic (.inr hS) rfl ?_
              apply Exists.intro; refine ⟨fun w' => ?_, ?_⟩
              · go_simp; (try with_reducible rfl)
              simp only [Act.put, List.setIfInBounds_toArray, List.set_cons_zero, List.set_cons_succ, List.getElem_toArray, List.getElem_cons_zero, List.getElem_cons_succ]
              refine wpF_take0 18 rfl (by kernel_rfl) (by kernel_rfl) (by kernel_rfl) (by kernel_rfl) no_panic (.inr hS) rfl ?_
              apply Exists.intro; refine ⟨fun w' => ?_, ?_⟩
              · go_simp; (try with_reducible rfl)
              simp only [Act.put, List.setIfInBounds_toArray, List.set_cons_zero, List.set_cons_succ, List.getElem_toArray, List.getElem_cons_zero, List.getElem_cons_succ]
              refine wpF_take0 19 rfl (by kernel_rfl) (by kernel_rfl) (by kernel_rfl) (by kernel_rfl) no_panic (.inr hS) rfl ?_
              apply Exists.intro; refine ⟨fun w' => ?_, ?_⟩
              · go_simp; (try with_reducible rfl)
              simp only [Act.put, List.setIfInBounds_toArray, List.set_cons_zero, List.set_cons_succ, List.getElem_toArray, List.getElem_cons_zero, List.getElem_cons_succ]
              refine wpF_take 20 rfl (by kernel_rfl) (by kernel_rfl) (by kernel_rfl) (by kernel_rfl) (by kernel_rfl) no_panic hS rfl ?_
              apply Exists.intro; refine ⟨fun w' hw' => ?_, ?_⟩
              · (try dsimp only at hw'); go_simp; (try with_reducible rfl)
              simp only [Act.put, List.setIfInBounds_toArray, List.set_cons_zero, List.set_cons_succ, List.getElem_toArray, List.getElem_cons_zero, List.getElem_cons_succ]
              refine wpF_take0 21 rfl (by kernel_rfl) (by kernel_rfl) (by kernel_rfl) (by kernel_rfl) no_panic (.inr hS) rfl ?_
              apply Exists.intro; refine ⟨fun w' => ?_, ?_⟩
              · go_simp; (try with_reducible rfl)
              simp only [Act.put, List.setIfInBounds_toArray, List.set_cons_zero, List.set_cons_succ, List.getElem_toArray, List.getElem_cons_zero, List.getElem_cons_succ]
              refine wpF_take0 22 rfl (by kernel_rfl) (by kernel_rfl) (by kernel_rfl) (by kernel_rfl) no_panic (.inr hS) rfl ?_
              apply Exists.intro; refine ⟨fun w' => ?_, ?_⟩
              · go_simp; (try with_reducible rfl)
              simp only [Act.put, List.setIfInBounds_toArray, List.set_cons_zero, List.set_cons_succ, List.getElem_toArray, List.getElem_cons_zero, List.getElem_cons_succ]
              refine wpF_take 23 rfl (by kernel_rfl) (by kernel_rfl) (by kernel_rfl) (by kernel_rfl) (by kernel_rfl) no_panic hS rfl ?_
              apply Exists.intro; refine ⟨fun w' hw' => ?_, ?_⟩
              · (try dsimp only at hw'); go_simp; (try with_reducible rfl)
              simp only [Act.put, List.setIfInBounds_toArray, List.set_cons_zero, List.set_cons_succ, List.getElem_toArray, List.getElem_cons_zero, List.getElem_cons_succ]
              refine wpF_take 24 rfl (by kernel_rfl) (by kernel_rfl) (by kernel_rfl) (by kernel_rfl) (by kernel_rfl) no_panic hS rfl ?_
              apply Exists.intro; refine ⟨fun w' hw' => ?_, ?_⟩
              · exact exec_convert 29 9 (.tmp 170) rfl rfl (Sl.string hw'.2.2.2 29 9 5 Try.underlying29 Try.underlying5 Try.underlying9)
              simp only [Act.put, List.setIfInBounds_toArray, List.set_cons_zero, List.set_cons_succ, List.getElem_toArray, List.getElem_cons_zero, List.getElem_cons_succ]
              refine wpF_take0 25 rfl (by kernel_rfl) (by kernel_rfl) (by kernel_rfl) (by kernel_rfl) no_panic (.inr hS) rfl ?_
              apply Exists.intro; refine ⟨fun w' => ?_, ?_⟩
              · go_simp; (try with_reducible rfl)
              simp only [Act.put, List.setIfInBounds_toArray, List.set_cons_zero, List.set_cons_succ, List.getElem_toArray, List.getElem_cons_zero, List.getElem_cons_succ]
              refine wpF_take0 26 rfl (by kernel_rfl) (by kernel_rfl) (by kernel_rfl) (by kernel_rfl) no_panic (.inr hS) rfl ?_
              apply Exists.intro; refine ⟨fun w' => ?_, ?_⟩
              · go_simp; (try with_reducible rfl)
              simp only [Act.put, List.setIfInBounds_toArray, List.set_cons_zero, List.set_cons_succ, List.getElem_toArray, List.getElem_cons_zero, List.getElem_cons_succ]
              refine wpF_done (by kernel_rfl) (NoPanic.normal ?_)
              clear hS
              have BJ2 : Hid (Below wd.heap.size wd wb.drew) := Lib.hid ((below_then BJ.out BJ.out.size BB.out).drew)
              clear hcj hcj2 hcp2 hcp SB HRP2 HRP BB BJ
              go_wp2_with fail
              go_roundw
              case rel => exact ⟨j + 1, by omega, by go_num, BJ2.out⟩
              case measure => simp [intOf]; omega
            · go_wp2_with fail
              have BK := Lib.hid (below_then Bd.out Bd.out.size BJ.out)
              have SK := Lib.hid (Sd.out.below BJ.out)
              have OK := Lib.hid (Od.out.below BJ.out)
              go_roundw
              case rel =>
                exact ⟨k + 1, aN, P, A, c, by omega, by omega, by go_num, by go_num, rfl, by omega, by omega, by omega, OK.out, SK.out, H6.out, BK.out⟩
              case measure => simp [intOf]; omega
        ·
          go_wp2_with fail
          refine (due_all _ (fun x => x ≠ sb ∧ some x ≠ (Value.slice A P.length c).ownBlock) sb win (a:Int) (P.drop a) S5.out (by simp; omega) (by omega)).mono ?_
          rintro e wd ⟨Ad, cd, rfl, sd, bd⟩
          simp only [due_len, List.length_drop] at sd ⊢
          have SD := Lib.hid sd
          have BD := Lib.hid bd
          clear sd bd
          have hm2 : ((P.length - a : Nat) : Int) = (P.length : Int) - (a:Int) := by omega
          have hm3 : ¬ win < ((P.length - a : Nat) : Int) := by omega
          have Sd := Lib.hid (S5.out.below BD.out)
          have Od := Lib.hid (O5.out.below BD.out)
          have Bd := Lib.hid (below_then B5.out B5.out.size BD.out)
          have hdlen : (P.drop a).length = P.length - a := by simp
          clear S5 O5 B5 BD
          go_wp2_with fail
          go_loopw [18] (fun jv wj => ∃ j : Nat, j ≤ P.length - a ∧ jv = .int .i64 j ∧ Below wd.heap.size wd wj) (fun jv _ => (P.length - a) - (intOf jv).toNat)
          case atStart => exact ⟨0, Nat.zero_le _, rfl, Below.refl _ _⟩
          case round =>
            obtain ⟨j, hj, rfl, hbj⟩ := hrel
            have BJ := Lib.hid hbj
            clear hbj
            by_cases hjl : j < P.length - a
            · have hjP : a + j < P.length := by omega
              have hdl2 : (dueOf (a:Int) (P.length - a)).length = P.length - a := due_len _ _
              obtain ⟨gd, od, hAd, _, hcd⟩ := SD.out.ints (by rw [hdl2]; omega)
              subst hAd
              have hcd1 := (hcd j (by rw [hdl2]; omega)).1
              have hdj : (dueOf (a:Int) (P.length - a))[j]'(by rw [hdl2]; omega) = (a:Int) + 1 + j := by simp [dueOf]
              rw [hdj] at hcd1
              have hcj := cell_below BJ.out hcd1
              have x1 : bodyOk (a:Int) (P.drop a) ((a:Int) + 1 + j) = true := by simp [bodyOk]; omega
              have x2 : bodyL (a:Int) (P.drop a) ((a:Int) + 1 + j) = P[a + j] := by
                unfold bodyL
                rw [x1, if_pos rfl, show ((a:Int) + 1 + (j : Int) - (a:Int) - 1).toNat = j by omega, List.getD_eq_getElem?_getD, List.getElem?_drop, List.getElem?_eq_getElem hjP]
                rfl
              obtain ⟨gp, op, Ap, cp, hAp, _, hcp, hrp⟩ := ((Od.out.sl (fun x => True) (fun _ _ => trivial) (fun _ _ h => Rep.mono (fun _ _ _ => ⟨trivial, rfl⟩) h)).below BJ.out).row (a + j) hjP
              subst hAp
              generalize P[a + j] = rr at *
              have HRP := Lib.hid hrp
              have hj0 : (0 : Int) ≤ j := by omega
              have hjn : (j : Int) < ((P.length - a : Nat) : Int) := by omega
              have hx0 : (1 : Int) ≤ (a:Int) + 1 + j := by omega
              have hx1 : (a:Int) + 1 + j - 1 < (P.length : Int) := by omega
              have hx2 : ((a:Int) + 1 + (j : Int) - 1).toNat = a + j := by omega
              have hw1 : IntKind.i64.wrap ((a:Int) + 1) = (a:Int) + 1 := Go.IntWalk.i64_in _ (by omega)
              have hw2 : IntKind.i64.wrap ((a:Int) + 1 + (j : Int)) = (a:Int) + 1 + j := Go.IntWalk.i64_in _ (by omega)
              have hw3 : IntKind.i64.wrap ((a:Int) + 1 + (j : Int) - 1) = (a:Int) + 1 + j - 1 := Go.IntWalk.i64_in _ (by omega)
              clear hcd hcd1 hdj hrp
              clear hdl2
              go_wp2_with fail
              refine (body_any _ (fun x => x ≠ sb ∧ some x ≠ (Value.slice (some ⟨gp, op, none⟩) P.length c).ownBlock) sb win (a:Int) ((a:Int) + 1 + j) (P.drop a) (Sd.out.below BJ.out) (by simp; omega) (by omega) (fun r' hr' => Nat.le_trans (H6.out r' (List.mem_of_mem_drop hr')) (by omega))).mono ?_
              rintro e wb ⟨⟨Ab, cb, rfl, sb1⟩, bb⟩
              rw [x2] at sb1 ⊢
              rw [x1]
              have SB := Lib.hid sb1
              have BB := Lib.hid bb
              have hcj2 := cell_below bb hcj
              have hcp2 := cell_below bb hcp
              have HRP2 := Lib.hid (HRP.out.below bb)
              clear sb1 bb x1 x2
              go_wp2_with fail
              have hS : wb.drew.cell? ⟨gd, od + j, none⟩ = some (.int .i64 ((a:Int) + 1 + j)) ∧ wb.drew.cell? ⟨gp, op + (a + j), none⟩ = some (.slice Ap rr.length cp) ∧ Sl wb.drew (fun _ => True) (.slice Ab rr.length cb) rr ∧ Sl wb.drew (fun _ => True) (.slice Ap rr.length cp) rr :=
                ⟨hcj2, hcp2, SB.out.weaken fun _ _ _ => trivial, HRP2.out⟩
              refine wp_regionF (fun w' => w'.cell? ⟨gd, od + j, none⟩ = some (.int .i64 ((a:Int) + 1 + j)) ∧ w'.cell? ⟨gp, op + (a + j), none⟩ = some (.slice Ap rr.length cp) ∧ Sl w' (fun _ => True) (.slice Ab rr.length cb) rr ∧ Sl w' (fun _ => True) (.slice Ap rr.length cp) rr) [] (by kernel_rfl) ?_
              refine wpF_take0 0 rfl (by kernel_rfl) (by kernel_rfl) (by kernel_rfl) (by kernel_rfl) no_panic (.inr hS) rfl ?_
              apply Exists.intro; refine ⟨fun w' => ?_, ?_⟩
              · go_simp; (try with_reducible rfl)
              simp only [Act.put, List.setIfInBounds_toArray, List.set_cons_zero, List.set_cons_succ, List.getElem_toArray, List.getElem_cons_zero, List.getElem_cons_succ]
              refine wpF_take0 1 rfl (by kernel_rfl) (by kernel_rfl) (by kernel_rfl) (by kernel_rfl) no_panic (.inr hS) rfl ?_
              apply Exists.intro; refine ⟨fun w' => ?_, ?_⟩
              · go_simp; (try with_reducible rfl)
              simp only [Act.put, List.setIfInBounds_toArray, List.set_cons_zero, List.set_cons_succ, List.getElem_toArray, List.getElem_cons_zero, List.getElem_cons_succ]
              refine wpF_take0 2 rfl (by kernel_rfl) (by kernel_rfl) (by kernel_rfl) (by kernel_rfl) no_panic (.inr hS) rfl ?_
              apply Exists.intro; refine ⟨fun w' => ?_, ?_⟩
              · go_simp; (try with_reducible rfl)
              simp only [Act.put, List.setIfInBounds_toArray, List.set_cons_zero, List.set_cons_succ, List.getElem_toArray, List.getElem_cons_zero, List.getElem_cons_succ]
              refine wpF_take 3 rfl (by kernel_rfl) (by kernel_rfl) (by kernel_rfl) (by kernel_rfl) (by kernel_rfl) no_panic hS rfl ?_
              apply Exists.intro; refine ⟨fun w' hw' => ?_, ?_⟩
              · (try dsimp only at hw'); go_simp; (try with_reducible rfl)
              simp only [Act.put, List.setIfInBounds_toArray, List.set_cons_zero, List.set_cons_succ, List.getElem_toArray, List.getElem_cons_zero, List.getElem_cons_succ]
              refine wpF_take0 4 rfl (by kernel_rfl) (by kernel_rfl) (by kernel_rfl) (by kernel_rfl) no_panic (.inr hS) rfl ?_
              apply Exists.intro; refine ⟨fun w' => ?_, ?_⟩
              · go_simp; (try with_reducible rfl)
              simp only [Act.put, List.setIfInBounds_toArray, List.set_cons_zero, List.set_cons_succ, List.getElem_toArray, List.getElem_cons_zero, List.getElem_cons_succ]
              refine wpF_take0 5 rfl (by kernel_rfl) (by kernel_rfl) (by kernel_rfl) (by kernel_rfl) no_panic (.inr hS) rfl ?_
              apply Exists.intro; refine ⟨fun w' => ?_, ?_⟩
              · go_simp; (try with_reducible rfl)
              simp only [Act.put, List.setIfInBounds_toArray, List.set_cons_zero, List.set_cons_succ, List.getElem_toArray, List.getElem_cons_zero, List.getElem_cons_succ]
              refine wpF_take0 6 rfl (by kernel_rfl) (by kernel_rfl) (by kernel_rfl) (by kernel_rfl) no_panic (.inr hS) rfl ?_
              apply Exists.intro; refine ⟨fun w' => ?_, ?_⟩
              · go_simp; (try with_reducible rfl)
              simp only [Act.put, List.setIfInBounds_toArray, List.set_cons_zero, List.set_cons_succ, List.getElem_toArray, List.getElem_cons_zero, List.getElem_cons_succ]
              refine wpF_take0 7 rfl (by kernel_rfl) (by kernel_rfl) (by kernel_rfl) (by kernel_rfl) no_panic (.inr hS) rfl ?_
              apply Exists.intro; refine ⟨fun w' => ?_, ?_⟩
              · go_simp; (try with_reducible rfl)
              simp only [Act.put, List.setIfInBounds_toArray, List.set_cons_zero, List.set_cons_succ, List.getElem_toArray, List.getElem_cons_zero, List.getElem_cons_succ]
              refine wpF_take0 8 rfl (by kernel_rfl) (by kernel_rfl) (by kernel_rfl) (by kernel_rfl) no_panic (.inr hS) rfl ?_
              apply Exists.intro; refine ⟨fun w' => ?_, ?_⟩
              · go_simp; (try with_reducible rfl)
              simp only [Act.put, List.setIfInBounds_toArray, List.set_cons_zero, List.set_cons_succ, List.getElem_toArray, List.getElem_cons_zero, List.getElem_cons_succ]
              refine wpF_take0 9 rfl (by kernel_rfl) (by kernel_rfl) (by kernel_rfl) (by kernel_rfl) no_panic (.inr hS) rfl ?_
              apply Exists.intro; refine ⟨fun w' => ?_, ?_⟩
              · go_simp; (try with_reducible rfl)
              simp only [Act.put, List.setIfInBounds_toArray, List.set_cons_zero, List.set_cons_succ, List.getElem_toArray, List.getElem_cons_zero, List.getElem_cons_succ]
              refine wpF_take0 10 rfl (by kernel_rfl) (by kernel_rfl) (by kernel_rfl) (by kernel_rfl) no_panic (.inr hS) rfl ?_
              apply Exists.intro; refine ⟨fun w' => ?_, ?_⟩
              · go_simp; (try with_reducible rfl)
              simp only [Act.put, List.setIfInBounds_toArray, List.set_cons_zero, List.set_cons_succ, List.getElem_toArray, List.getElem_cons_zero, List.getElem_cons_succ]
              refine wpF_take0 11 rfl (by kernel_rfl) (by kernel_rfl) (by kernel_rfl) (by kernel_rfl) no_panic (.inr hS) rfl ?_
              apply Exists.intro; refine ⟨fun w' => ?_, ?_⟩
              · go_simp; (try with_reducible rfl)
              simp only [Act.put, List.setIfInBounds_toArray, List.set_cons_zero, List.set_cons_succ, List.getElem_toArray, List.getElem_cons_zero, List.getElem_cons_succ]
              refine wpF_take0 12 rfl (by kernel_rfl) (by kernel_rfl) (by kernel_rfl) (by kernel_rfl) no_panic (.inr hS) rfl ?_
              apply Exists.intro; refine ⟨fun w' => ?_, ?_⟩
              · go_simp; (try with_reducible rfl)
              simp only [Act.put, List.setIfInBounds_toArray, List.set_cons_zero, List.set_cons_succ, List.getElem_toArray, List.getElem_cons_zero, List.getElem_cons_succ]
              refine wpF_take0 13 rfl (by kernel_rfl) (by kernel_rfl) (by kernel_rfl) (by kernel_rfl) no_panic (.inr hS) rfl ?_
              apply Exists.intro; refine ⟨fun w' => ?_, ?_⟩
              · go_simp; (try with_reducible rfl)
              simp only [Act.put, List.setIfInBounds_toArray, List.set_cons_zero, List.set_cons_succ, List.getElem_toArray, List.getElem_cons_zero, List.getElem_cons_succ]
              refine wpF_take0 14 rfl (by kernel_rfl) (by kernel_rfl) (by kernel_rfl) (by kernel_rfl) no_panic (.inr hS) rfl ?_
              apply Exists.intro; refine ⟨fun w' => ?_, ?_⟩
              · go_simp; (try with_reducible rfl)
              simp only [Act.put, List.setIfInBounds_toArray, List.set_cons_zero, List.set_cons_succ, List.getElem_toArray, List.getElem_cons_zero, List.getElem_cons_succ]
              refine wpF_take 15 rfl (by kernel_rfl) (by kernel_rfl) (by kernel_rfl) (by kernel_rfl) (by kernel_rfl) no_panic hS rfl ?_
              apply Exists.intro; refine ⟨fun w' hw' => ?_, ?_⟩
              · exact exec_convert 29 9 (.tmp 161) rfl rfl (Sl.string hw'.2.2.1 29 9 5 Try.underlying29 Try.underlying5 Try.underlying9)
              simp only [Act.put, List.setIfInBounds_toArray, List.set_cons_zero, List.set_cons_succ, List.getElem_toArray, List.getElem_cons_zero, List.getElem_cons_succ]
              refine wpF_take0 16 rfl (by kernel_rfl) (by kernel_rfl) (by kernel_rfl) (by kernel_rfl) no_panic (.inr hS) rfl ?_
              apply Exists.intro; refine ⟨fun w' => ?_, ?_⟩
              · go_simp; (try with_reducible rfl)
              simp only [Act.put, List.setIfInBounds_toArray, List.set_cons_zero, List.set_cons_succ, List.getElem_toArray, List.getElem_cons_zero, List.getElem_cons_succ]
              refine wpF_take0 17 rfl (by kernel_rfl) (by kernel_rfl) (by kernel_rfl) (by kernel_rfl) no_panic (.inr hS) rfl ?_
              apply Exists.intro; refine ⟨fun w' => ?_, ?_⟩
              · go_simp; (try with_reducible rfl)
              simp only [Act.put, List.setIfInBounds_toArray, List.set_cons_zero, List.set_cons_succ, List.getElem_toArray, List.getElem_cons_zero, List.getElem_cons_succ]
              refine wpF_take0 18 rfl (by kernel_rfl) (by kernel_rfl) (by kernel_rfl) (by kernel_rfl) no_panic (.inr hS) rfl ?_
              apply Exists.intro; refine ⟨fun w' => ?_, ?_⟩
              · go_simp; (try with_reducible rfl)
              simp only [Act.put, List.setIfInBounds_toArray, List.set_cons_zero, List.set_cons_succ, List.getElem_toArray, List.getElem_cons_zero, List.getElem_cons_succ]
              refine wpF_take0 19 rfl (by kernel_rfl) (by kernel_rfl) (by kernel_rfl) (by kernel_rfl) no_panic (.inr hS) rfl ?_
              apply Exists.intro; refine ⟨fun w' => ?_, ?_⟩
              · go_simp; (try with_reducible rfl)
              simp only [Act.put, List.setIfInBounds_toArray, List.set_cons_zero, List.set_cons_succ, List.getElem_toArray, List.getElem_cons_zero, List.getElem_cons_succ]
              refine wpF_take 20 rfl (by kernel_rfl) (by kernel_rfl) (by kernel_rfl) (by kernel_rfl) (by kernel_rfl) no_panic hS rfl ?_
              apply Exists.intro; refine ⟨fun w' hw' => ?_, ?_⟩
              · (try dsimp only at hw'); go_simp; (try with_reducible rfl)
              simp only [Act.put, List.setIfInBounds_toArray, List.set_cons_zero, List.set_cons_succ, List.getElem_toArray, List.getElem_cons_zero, List.getElem_cons_succ]
              refine wpF_take0 21 rfl (by kernel_rfl) (by kernel_rfl) (by kernel_rfl) (by kernel_rfl) no_panic (.inr hS) rfl ?_
              apply Exists.intro; refine ⟨fun w' => ?_, ?_⟩
              · go_simp; (try with_reducible rfl)
              simp only [Act.put, List.setIfInBounds_toArray, List.set_cons_zero, List.set_cons_succ, List.getElem_toArray, List.getElem_cons_zero, List.getElem_cons_succ]
              refine wpF_take0 22 rfl (by kernel_rfl) (by kernel_rfl) (by kernel_rfl) (by kernel_rfl) no_panic (.inr hS) rfl ?_
              apply Exists.intro; refine ⟨fun w' => ?_, ?_⟩
              · go_simp; (try with_reducible rfl)
              simp only [Act.put, List.setIfInBounds_toArray, List.set_cons_zero, List.set_cons_succ, List.getElem_toArray, List.getElem_cons_zero, List.getElem_cons_succ]
              refine wpF_take 23 rfl (by kernel_rfl) (by kernel_rfl) (by kernel_rfl) (by kernel_rfl) (by kernel_rfl) no_panic hS rfl ?_
              apply Exists.intro; refine ⟨fun w' hw' => ?_, ?_⟩
              · (try dsimp only at hw'); go_simp; (try with_reducible rfl)
              simp only [Act.put, List.setIfInBounds_toArray, List.set_cons_zero, List.set_cons_succ, List.getElem_toArray, List.getElem_cons_zero, List.getElem_cons_succ]
              refine wpF_take 24 rfl (by kernel_rfl) (by kernel_rfl) (by kernel_rfl) (by kernel_rfl) (by kernel_rfl) no_panic hS rfl ?_
              apply Exists.intro; refine ⟨fun w' hw' => ?_, ?_⟩
              · exact exec_convert 29 9 (.tmp 170) rfl rfl (Sl.string hw'.2.2.2 29 9 5 Try.underlying29 Try.underlying5 Try.underlying9)
              simp only [Act.put, List.setIfInBounds_toArray, List.set_cons_zero, List.set_cons_succ, List.getElem_toArray, List.getElem_cons_zero, List.getElem_cons_succ]
              refine wpF_take0 25 rfl (by kernel_rfl) (by kernel_rfl) (by kernel_rfl) (by kernel_rfl) no_panic (.inr hS) rfl ?_
              apply Exists.intro; refine ⟨fun w' => ?_, ?_⟩
              · go_simp; (try with_reducible rfl)
              simp only [Act.put, List.setIfInBounds_toArray, List.set_cons_zero, List.set_cons_succ, List.getElem_toArray, List.getElem_cons_zero, List.getElem_cons_succ]
              refine wpF_take0 26 rfl (by kernel_rfl) (by kernel_rfl) (by kernel_rfl) (by kernel_rfl) no_panic (.inr hS) rfl ?_
              apply Exists.intro; refine ⟨fun w' => ?_, ?_⟩
              · go_simp; (try with_reducible rfl)
              simp only [Act.put, List.setIfInBounds_toArray, List.set_cons_zero, List.set_cons_succ, List.getElem_toArray, List.getElem_cons_zero, List.getElem_cons_succ]
              refine wpF_done (by kernel_rfl) (NoPanic.normal ?_)
              clear hS
              have BJ2 : Hid (Below wd.heap.size wd wb.drew) := Lib.hid ((below_then BJ.out BJ.out.size BB.out).drew)
              clear hcj hcj2 hcp2 hcp SB HRP2 HRP BB BJ
              go_wp2_with fail
              go_roundw
              case rel => exact ⟨j + 1, by omega, by go_num, BJ2.out⟩
              case measure => simp [intOf]; omega
            · go_wp2_with fail
              have BK := Lib.hid (below_then Bd.out Bd.out.size BJ.out)
              have SK := Lib.hid (Sd.out.below BJ.out)
              have OK := Lib.hid (Od.out.below BJ.out)
              go_roundw
              case rel =>
                exact ⟨k + 1, a, P, A, c, by omega, by omega, by go_num, by go_num, rfl, by omega, by omega, by omega, OK.out, SK.out, H6.out, BK.out⟩
              case measure => simp [intOf]; omega
      · have hd1 : decide (win ≤ (P.length : Int) - a) = false := by simpa using hfull
        have hpe : pushE win (P.drop a) = 0 := by unfold pushE; rw [if_pos (by rw [hdl]; omega)]
        have hpn : pushN win a (P.drop a) = P.length + 1 := by unfold pushN; rw [if_pos (by rw [hdl]; omega), hdl]; omega
        have hpk : pushK win (P.drop a) (cut60 r) = (P ++ [cut60 r]).drop a := by unfold pushK; rw [if_pos (by rw [hdl]; omega), List.drop_append_of_le_length hal]
        rw [hpk] at S5
        have hcell5' := cell_alloc hcell5
        clear hpk hdl
        go_wp2_with fail
        refine (short_any _ (fun b => b < w.heap.size) _ r hrow5.out).mono ?_
        rintro e w6 ⟨⟨v6, rfl, h6⟩, rfl⟩
        obtain ⟨A6, c6, rfl, _⟩ := id h6
        have H6' := Lib.hid h6
        clear h6
        go_wp2_with (at_builtin; refine wpList_append_own' (α := List UInt8) (xs := P) (ys := [cut60 r]) rfl (.tmp 86) (.tmp 92) 22 29 rfl (.slice none 0 0) 24 Try.underlying22 rowsInfo rfl w.heap.size (ok := fun x => x < w.heap.size) (ok2 := fun x => x < w.heap.size) rfl rfl (O5.out.below ((Below.refl _ _).alloc (Nat.le_refl _) _)) (Arg.single _ ⟨_, rfl, H6'.out⟩) (fun b hb e => by have := O5.out.base b e.symm; omega) (fun _ _ h => h) (by have := B5.out.size; simp; omega) (by simp; omega) (by simp; omega) (P.length + 1) (by simp) ?_)
        intro A7 c7 w7 o7 g7 hat
        have S7 := Lib.hid (sender_append (S5.out.below ((Below.refl _ _).alloc (Nat.le_refl _) _)) (O5.out.below ((Below.refl _ _).alloc (Nat.le_refl _) _)) g7 hat (by simp))
        have B7 := Lib.hid (below_append B5.out B5.out.size g7 O5.out.base)
        have H7 : Hid (∀ r' ∈ P ++ [cut60 r], r'.length ≤ 60) := by
          intro r' hr'
          rcases List.mem_append.1 hr' with h | h
          · exact H6.out r' h
          · simp at h; subst h; exact hlen60
        obtain ⟨P2, hP2⟩ : ∃ P2, P2 = P ++ [cut60 r] := ⟨_, rfl⟩
        rw [← hP2] at o7 S7 H7
        have hl2 : P.length + 1 = P2.length := by rw [hP2]; simp
        rw [hl2] at o7 S7 ⊢
        have O7 := Lib.hid o7
        have hal2 : a ≤ P2.length := by omega
        have hap : a < P2.length := by omega
        have hle : P2.length ≤ k + 1 := by omega
        have hwn : (P2.length : Int) - a ≤ win := by omega
        clear o7 g7 hat hP2 S5 O5 B5 H6 hpe hpn hal
        rename a ≤ P2.length => hal
        have hkk0 : kk ≠ 0 := by omega
        by_cases hm : (k : Int) % kk = 0
        ·
          have e1 : ackOk a (P2.drop a) ((a : Int) + 1) = true := by simp [ackOk]; omega
          have e2 : ackOk ((a : Int) + 1) (P2.drop (a + 1)) a = false := by simp [ackOk]; omega
          have f1 : ackE a (P2.drop a) ((a : Int) + 1) = 0 := by unfold ackE; rw [e1]; rfl
          have f2 : ackE ((a : Int) + 1) (P2.drop (a + 1)) a = 22 := by unfold ackE; rw [e2]; rfl
          have f3 : ackA a (P2.drop a) ((a : Int) + 1) = (a : Int) + 1 := by unfold ackA; rw [e1]; rfl
          have f4 : ackA ((a : Int) + 1) (P2.drop (a + 1)) a = (a : Int) + 1 := by unfold ackA; rw [e2]; rfl
          have f5 : ackK a (P2.drop a) ((a : Int) + 1) = P2.drop (a + 1) := by unfold ackK; rw [e1, if_pos rfl, List.drop_drop]; congr 1; omega
          have f6 : ackK ((a : Int) + 1) (P2.drop (a + 1)) a = P2.drop (a + 1) := by unfold ackK; rw [e2]; rfl
          clear e1 e2
          go_wp2_with fail
          refine (ack_any _ (fun x => x ≠ sb ∧ some x ≠ (Value.slice A7 P2.length c7).ownBlock) sb win a ((a : Int) + 1) (P2.drop a) S7.out (by simp) (by simp; omega) (by omega)).mono ?_
          rintro e w9 ⟨rfl, s9, g9⟩
          rw [f3, f5] at s9
          rw [f1]
          have O9 := Lib.hid (own_sender O7.out g9 S7.out hsb)
          have B9 : Hid (Below w.heap.size w w9) := below_sender B7.out hsb B7.out.size g9
          have S9 := Lib.hid s9
          clear s9 g9 f3 f5
          go_wp2_with fail
          refine (ack_any _ (fun x => x ≠ sb ∧ some x ≠ (Value.slice A7 P2.length c7).ownBlock) sb win ((a : Int) + 1) a (P2.drop (a + 1)) S9.out (by simp) (by simp; omega) (by omega)).mono ?_
          rintro e w10 ⟨rfl, s10, g10⟩
          rw [f4, f6] at s10
          rw [f2]
          have O10 := Lib.hid (own_sender O9.out g10 S9.out hsb)
          have B10 : Hid (Below w.heap.size w w10) := below_sender B9.out hsb B9.out.size g10
          have S10 := Lib.hid s10
          clear s10 g10 f4 f6 S7 O7 B7 S9 O9 B9
          obtain ⟨aN, haN⟩ : ∃ aN : Nat, aN = a + 1 := ⟨_, rfl⟩
          have haI : (a : Int) + 1 = (aN : Int) := by omega
          rw [haI, ← haN] at S10
          rw [haI]
          have hN1 : aN ≤ P2.length := by omega
          have hN2 : (P2.length : Int) - aN ≤ win := by omega
          clear haI haN hap hal hwn hm
          go_wp2_with fail
          refine (due_all _ (fun x => x ≠ sb ∧ some x ≠ (Value.slice A7 P2.length c7).ownBlock) sb win (aN:Int) (P2.drop aN) S10.out (by simp; omega) (by omega)).mono ?_
          rintro e wd ⟨Ad, cd, rfl, sd, bd⟩
          simp only [due_len, List.length_drop] at sd ⊢
          have SD := Lib.hid sd
          have BD := Lib.hid bd
          clear sd bd
          have hm2 : ((P2.length - aN : Nat) : Int) = (P2.length : Int) - (aN:Int) := by omega
          have hm3 : ¬ win < ((P2.length - aN : Nat) : Int) := by omega
          have Sd := Lib.hid (S10.out.below BD.out)
          have Od := Lib.hid (O10.out.below BD.out)
          have Bd := Lib.hid (below_then B10.out B10.out.size BD.out)
          have hdlen : (P2.drop aN).length = P2.length - aN := by simp
          clear S10 O10 B10 BD
          go_wp2_with fail
          go_loopw [18] (fun jv wj => ∃ j : Nat, j ≤ P2.length - aN ∧ jv = .int .i64 j ∧ Below wd.heap.size wd wj) (fun jv _ => (P2.length - aN) - (intOf jv).toNat)
          case atStart => exact ⟨0, Nat.zero_le _, rfl, Below.refl _ _⟩
          case round =>
            obtain ⟨j, hj, rfl, hbj⟩ := hrel
            have BJ := Lib.hid hbj
            clear hbj
            by_cases hjl : j < P2.length - aN
            · have hjP : aN + j < P2.length := by omega
              have hdl2 : (dueOf (aN:Int) (P2.length - aN)).length = P2.length - aN := due_len _ _
              obtain ⟨gd, od, hAd, _, hcd⟩ := SD.out.ints (by rw [hdl2]; omega)
              subst hAd
              have hcd1 := (hcd j (by rw [hdl2]; omega)).1
              have hdj : (dueOf (aN:Int) (P2.length - aN))[j]'(by rw [hdl2]; omega) = (aN:Int) + 1 + j := by simp [dueOf]
              rw [hdj] at hcd1
              have hcj := cell_below BJ.out hcd1
              have x1 : bodyOk (aN:Int) (P2.drop aN) ((aN:Int) + 1 + j) = true := by simp [bodyOk]; omega
              have x2 : bodyL (aN:Int) (P2.drop aN) ((aN:Int) + 1 + j) = P2[aN + j] := by
                unfold bodyL
                rw [x1, if_pos rfl, show ((aN:Int) + 1 + (j : Int) - (aN:Int) - 1).toNat = j by omega, List.getD_eq_getElem?_getD, List.getElem?_drop, List.getElem?_eq_getElem hjP]
                rfl
              obtain ⟨gp, op, Ap, cp, hAp, _, hcp, hrp⟩ := ((Od.out.sl (fun x => True) (fun _ _ => trivial) (fun _ _ h => Rep.mono (fun _ _ _ => ⟨trivial, rfl⟩) h)).below BJ.out).row (aN + j) hjP
              subst hAp
              generalize P2[aN + j] = rr at *
              have HRP := Lib.hid hrp
              have hj0 : (0 : Int) ≤ j := by omega
              have hjn : (j : Int) < ((P2.length - aN : Nat) : Int) := by omega
              have hx0 : (1 : Int) ≤ (aN:Int) + 1 + j := by omega
              have hx1 : (aN:Int) + 1 + j - 1 < (P2.length : Int) := by omega
              have hx2 : ((aN:Int) + 1 + (j : Int) - 1).toNat = aN + j := by omega
              have hw1 : IntKind.i64.wrap ((aN:Int) + 1) = (aN:Int) + 1 := Go.IntWalk.i64_in _ (by omega)
              have hw2 : IntKind.i64.wrap ((aN:Int) + 1 + (j : Int)) = (aN:Int) + 1 + j := Go.IntWalk.i64_in _ (by omega)
              have hw3 : IntKind.i64.wrap ((aN:Int) + 1 + (j : Int) - 1) = (aN:Int) + 1 + j - 1 := Go.IntWalk.i64_in _ (by omega)
              clear hcd hcd1 hdj hrp
              clear hdl2
              go_wp2_with fail
              refine (body_any _ (fun x => x ≠ sb ∧ some x ≠ (Value.slice (some ⟨gp, op, none⟩) P2.length c7).ownBlock) sb win (aN:Int) ((aN:Int) + 1 + j) (P2.drop aN) (Sd.out.below BJ.out) (by simp; omega) (by omega) (fun r' hr' => Nat.le_trans (H7.out r' (List.mem_of_mem_drop hr')) (by omega))).mono ?_
              rintro e wb ⟨⟨Ab, cb, rfl, sb1⟩, bb⟩
              rw [x2] at sb1 ⊢
              rw [x1]
              have SB := Lib.hid sb1
              have BB := Lib.hid bb
              have hcj2 := cell_below bb hcj
              have hcp2 := cell_below bb hcp
              have HRP2 := Lib.hid (HRP.out.below bb)
              clear sb1 bb x1 x2
              go_wp2_with fail
              have hS : wb.drew.cell? ⟨gd, od + j, none⟩ = some (.int .i64 ((aN:Int) + 1 + j)) ∧ wb.drew.cell? ⟨gp, op + (aN + j), none⟩ = some (.slice Ap rr.length cp) ∧ Sl wb.drew (fun _ => True) (.slice Ab rr.length cb) rr ∧ Sl wb.drew (fun _ => True) (.slice Ap rr.length cp) rr :=
                ⟨hcj2, hcp2, SB.out.weaken fun _ _ _ => trivial, HRP2.out⟩
              refine wp_regionF (fun w' => w'.cell? ⟨gd, od + j, none⟩ = some (.int .i64 ((aN:Int) + 1 + j)) ∧ w'.cell? ⟨gp, op + (aN + j), none⟩ = some (.slice Ap rr.length cp) ∧ Sl w' (fun _ => True) (.slice Ab rr.length cb) rr ∧ Sl w' (fun _ => True) (.slice Ap rr.length cp) rr) [] (by kernel_rfl) ?_
              refine wpF_take0 0 rfl (by kernel_rfl) (by kernel_rfl) (by kernel_rfl) (by kernel_rfl) no_panic (.inr hS) rfl ?_
              apply Exists.intro; refine ⟨fun w' => ?_, ?_⟩
              · go_simp; (try with_reducible rfl)
              simp only [Act.put, List.setIfInBounds_toArray, List.set_cons_zero, List.set_cons_succ, List.getElem_toArray, List.getElem_cons_zero, List.getElem_cons_succ]
              refine wpF_take0 1 rfl (by kernel_rfl) (by kernel_rfl) (by kernel_rfl) (by kernel_rfl) no_panic (.inr hS) rfl ?_
              apply Exists.intro; refine ⟨fun w' => ?_, ?_⟩
              · go_simp; (try with_reducible rfl)
              simp only [Act.put, List.setIfInBounds_toArray, List.set_cons_zero, List.set_cons_succ, List.getElem_toArray, List.getElem_cons_zero, List.getElem_cons_succ]
              refine wpF_take0 2 rfl (by kernel_rfl) (by kernel_rfl) (by kernel_rfl) (by kernel_rfl) no_panic (.inr hS) rfl ?_
              apply Exists.intro; refine ⟨fun w' => ?_, ?_⟩
              · go_simp; (try with_reducible rfl)
              simp only [Act.put, List.setIfInBounds_toArray, List.set_cons_zero, List.set_cons_succ, List.getElem_toArray, List.getElem_cons_zero, List.getElem_cons_succ]
              refine wpF_take 3 rfl (by kernel_rfl) (by kernel_rfl) (by kernel_rfl) (by kernel_rfl) (by kernel_rfl) no_panic hS rfl ?_
              apply Exists.intro; refine ⟨fun w' hw' => ?_, ?_⟩
              · (try dsimp only at hw'); go_simp; (try with_reducible rfl)
              simp only [Act.put, List.setIfInBounds_toArray, List.set_cons_zero, List.set_cons_succ, List.getElem_toArray, List.getElem_cons_zero, List.getElem_cons_succ]
              refine wpF_take0 4 rfl (by kernel_rfl) (by kernel_rfl) (by kernel_rfl) (by kernel_rfl) no_panic (.inr hS) rfl ?_
              apply Exists.intro; refine ⟨fun w' => ?_, ?_⟩
              · go_simp; (try with_reducible rfl)
              simp only [Act.put, List.setIfInBounds_toArray, List.set_cons_zero, List.set_cons_succ, List.getElem_toArray, List.getElem_cons_zero, List.getElem_cons_succ]
              refine wpF_take0 5 rfl (by kernel_rfl) (by kernel_rfl) (by kernel_rfl) (by kernel_rfl) no_panic (.inr hS) rfl ?_
              apply Exists.intro; refine ⟨fun w' => ?_, ?_⟩
              · go_simp; (try with_reducible rfl)
              simp only [Act.put, List.setIfInBounds_toArray, List.set_cons_zero, List.set_cons_succ, List.getElem_toArray, List.getElem_cons_zero, List.getElem_cons_succ]
              refine wpF_take0 6 rfl (by kernel_rfl) (by kernel_rfl) (by kernel_rfl) (by kernel_rfl) no_panic (.inr hS) rfl ?_
              apply Exists.intro; refine ⟨fun w' => ?_, ?_⟩
              · go_simp; (try with_reducible rfl)
              simp only [Act.put, List.setIfInBounds_toArray, List.set_cons_zero, List.set_cons_succ, List.getElem_toArray, List.getElem_cons_zero, List.getElem_cons_succ]
              refine wpF_take0 7 rfl (by kernel_rfl) (by kernel_rfl) (by kernel_rfl) (by kernel_rfl) no_panic (.inr hS) rfl ?_
              apply Exists.intro; refine ⟨fun w' => ?_, ?_⟩
              · go_simp; (try with_reducible rfl)
              simp only [Act.put, List.setIfInBounds_toArray, List.set_cons_zero, List.set_cons_succ, List.getElem_toArray, List.getElem_cons_zero, List.getElem_cons_succ]
              refine wpF_take0 8 rfl (by kernel_rfl) (by kernel_rfl) (by kernel_rfl) (by kernel_rfl) no_panic (.inr hS) rfl ?_
              apply Exists.intro; refine ⟨fun w' => ?_, ?_⟩
              · go_simp; (try with_reducible rfl)
              simp only [Act.put, List.setIfInBounds_toArray, List.set_cons_zero, List.set_cons_succ, List.getElem_toArray, List.getElem_cons_zero, List.getElem_cons_succ]
              refine wpF_take0 9 rfl (by kernel_rfl) (by kernel_rfl) (by kernel_rfl) (by kernel_rfl) no_panic (.inr hS) rfl ?_
              apply Exists.intro; refine ⟨fun w' => ?_, ?_⟩
              · go_simp; (try with_reducible rfl)
              simp only [Act.put, List.setIfInBounds_toArray, List.set_cons_zero, List.set_cons_succ, List.getElem_toArray, List.getElem_cons_zero, List.getElem_cons_succ]
              refine wpF_take0 10 rfl (by kernel_rfl) (by kernel_rfl) (by kernel_rfl) (by kernel_rfl) no_panic (.inr hS) rfl ?_
              apply Exists.intro; refine ⟨fun w' => ?_, ?_⟩
              · go_simp; (try with_reducible rfl)
              simp only [Act.put, List.setIfInBounds_toArray, List.set_cons_zero, List.set_cons_succ, List.getElem_toArray, List.getElem_cons_zero, List.getElem_cons_succ]
              refine wpF_take0 11 rfl (by kernel_rfl) (by kernel_rfl) (by kernel_rfl) (by kernel_rfl) no_panic (.inr hS) rfl ?_
              apply Exists.intro; refine ⟨fun w' => ?_, ?_⟩
              · go_simp; (try with_reducible rfl)
              simp only [Act.put, List.setIfInBounds_toArray, List.set_cons_zero, List.set_cons_succ, List.getElem_toArray, List.getElem_cons_zero, List.getElem_cons_succ]
              refine wpF_take0 12 rfl (by kernel_rfl) (by kernel_rfl) (by kernel_rfl) (by kernel_rfl) no_panic (.inr hS) rfl ?_
              apply Exists.intro; refine ⟨fun w' => ?_, ?_⟩
              · go_simp; (try with_reducible rfl)
              simp only [Act.put, List.setIfInBounds_toArray, List.set_cons_zero, List.set_cons_succ, List.getElem_toArray, List.getElem_cons_zero, List.getElem_cons_succ]
              refine wpF_take0 13 rfl (by kernel_rfl) (by kernel_rfl) (by kernel_rfl) (by kernel_rfl) no_panic (.inr hS) rfl ?_
              apply Exists.intro; refine ⟨fun w' => ?_, ?_⟩
              · go_simp; (try with_reducible rfl)
              simp only [Act.put, List.setIfInBounds_toArray, List.set_cons_zero, List.set_cons_succ, List.getElem_toArray, List.getElem_cons_zero, List.getElem_cons_succ]
              refine wpF_take0 14 rfl (by kernel_rfl) (by kernel_rfl) (by kernel_rfl) (by kernel_rfl) no_panic (.inr hS) rfl ?_
              apply Exists.intro; refine ⟨fun w' => ?_, ?_⟩
              · go_simp; (try with_reducible rfl)
              simp only [Act.put, List.setIfInBounds_toArray, List.set_cons_zero, List.set_cons_succ, List.getElem_toArray, List.getElem_cons_zero, List.getElem_cons_succ]
              refine wpF_take 15 rfl (by kernel_rfl) (by kernel_rfl) (by kernel_rfl) (by kernel_rfl) (by kernel_rfl) no_panic hS rfl ?_
              apply Exists.intro; refine ⟨fun w' hw' => ?_, ?_⟩
              · exact exec_convert 29 9 (.tmp 161) rfl rfl (Sl.string hw'.2.2.1 29 9 5 Try.underlying29 Try.underlying5 Try.underlying9)
              simp only [Act.put, List.setIfInBounds_toArray, List.set_cons_zero, List.set_cons_succ, List.getElem_toArray, List.getElem_cons_zero, List.getElem_cons_succ]
              refine wpF_take0 16 rfl (by kernel_rfl) (by kernel_rfl) (by kernel_rfl) (by kernel_rfl) no_panic (.inr hS) rfl ?_
              apply Exists.intro; refine ⟨fun w' => ?_, ?_⟩
              · go_simp; (try with_reducible rfl)
              simp only [Act.put, List.setIfInBounds_toArray, List.set_cons_zero, List.set_cons_succ, List.getElem_toArray, List.getElem_cons_zero, List.getElem_cons_succ]
              refine wpF_take0 17 rfl (by kernel_rfl) (by kernel_rfl) (by kernel_rfl) (by kernel_rfl) no_panic (.inr hS) rfl ?_
              apply Exists.intro; refine ⟨fun w' => ?_, ?_⟩
              · go_simp; (try with_reducible rfl)
              simp only [Act.put, List.setIfInBounds_toArray, List.set_cons_zero, List.set_cons_succ, List.getElem_toArray, List.getElem_cons_zero, List.getElem_cons_succ]
              refine wpF_take0 18 rfl (by kernel_rfl) (by kernel_rfl) (by kernel_rfl) (by kernel_rfl) no_panic (.inr hS) rfl ?_
              apply Exists.intro; refine ⟨fun w' => ?_, ?_⟩
              · go_simp; (try with_reducible rfl)
              simp only [Act.put, List.setIfInBounds_toArray, List.set_cons_zero, List.set_cons_succ, List.getElem_toArray, List.getElem_cons_zero, List.getElem_cons_succ]
              refine wpF_take0 19 rfl (by kernel_rfl) (by kernel_rfl) (by kernel_rfl) (by kernel_rfl) no_panic (.inr hS) rfl ?_
              apply Exists.intro; refine ⟨fun w' => ?_, ?_⟩
              · go_simp; (try with_reducible rfl)
              simp only [Act.put, List.setIfInBounds_toArray, List.set_cons_zero, List.set_cons_succ, List.getElem_toArray, List.getElem_cons_zero, List.getElem_cons_succ]
              refine wpF_take 20 rfl (by kernel_rfl) (by kernel_rfl) (by kernel_rfl) (by kernel_rfl) (by kernel_rfl) no_panic hS rfl ?_
              apply Exists.intro; refine ⟨fun w' hw' => ?_, ?_⟩
              · (try dsimp only at hw'); go_simp; (try with_reducible rfl)
              simp only [Act.put, List.setIfInBounds_toArray, List.set_cons_zero, List.set_cons_succ, List.getElem_toArray, List.getElem_cons_zero, List.getElem_cons_succ]
              refine wpF_take0 21 rfl (by kernel_rfl) (by kernel_rfl) (by kernel_rfl) (by kernel_rfl) no_panic (.inr hS) rfl ?_
              apply Exists.intro; refine ⟨fun w' => ?_, ?_⟩
              · go_simp; (try with_reducible rfl)
              simp only [Act.put, List.setIfInBounds_toArray, List.set_cons_zero, List.set_cons_succ, List.getElem_toArray, List.getElem_cons_zero, List.getElem_cons_succ]
              refine wpF_take0 22 rfl (by kernel_rfl) (by kernel_rfl) (by kernel_rfl) (by kernel_rfl) no_panic (.inr hS) rfl ?_
              apply Exists.intro; refine ⟨fun w' => ?_, ?_⟩
              · go_simp; (try with_reducible rfl)
              simp only [Act.put, List.setIfInBounds_toArray, List.set_cons_zero, List.set_cons_succ, List.getElem_toArray, List.getElem_cons_zero, List.getElem_cons_succ]
              refine wpF_take 23 rfl (by kernel_rfl) (by kernel_rfl) (by kernel_rfl) (by kernel_rfl) (by kernel_rfl) no_panic hS rfl ?_
              apply Exists.intro; refine ⟨fun w' hw' => ?_, ?_⟩
              · (try dsimp only at hw'); go_simp; (try with_reducible rfl)
              simp only [Act.put, List.setIfInBounds_toArray, List.set_cons_zero, List.set_cons_succ, List.getElem_toArray, List.getElem_cons_zero, List.getElem_cons_succ]
              refine wpF_take 24 rfl (by kernel_rfl) (by kernel_rfl) (by kernel_rfl) (by kernel_rfl) (by kernel_rfl) no_panic hS rfl ?_
              apply Exists.intro; refine ⟨fun w' hw' => ?_, ?_⟩
              · exact exec_convert 29 9 (.tmp 170) rfl rfl (Sl.string hw'.2.2.2 29 9 5 Try.underlying29 Try.underlying5 Try.underlying9)
              simp only [Act.put, List.setIfInBounds_toArray, List.set_cons_zero, List.set_cons_succ, List.getElem_toArray, List.getElem_cons_zero, List.getElem_cons_succ]
              refine wpF_take0 25 rfl (by kernel_rfl) (by kernel_rfl) (by kernel_rfl) (by kernel_rfl) no_panic (.inr hS) rfl ?_
              apply Exists.intro; refine ⟨fun w' => ?_, ?_⟩
              · go_simp; (try with_reducible rfl)
              simp only [Act.put, List.setIfInBounds_toArray, List.set_cons_zero, List.set_cons_succ, List.getElem_toArray, List.getElem_cons_zero, List.getElem_cons_succ]
              refine wpF_take0 26 rfl (by kernel_rfl) (by kernel_rfl) (by kernel_rfl) (by kernel_rfl) no_panic (.inr hS) rfl ?_
              apply Exists.intro; refine ⟨fun w' => ?_, ?_⟩
              · go_simp; (try with_reducible rfl)
              simp only [Act.put, List.setIfInBounds_toArray, List.set_cons_zero, List.set_cons_succ, List.getElem_toArray, List.getElem_cons_zero, List.getElem_cons_succ]
              refine wpF_done (by kernel_rfl) (NoPanic.normal ?_)
              clear hS
              have BJ2 : Hid (Below wd.heap.size wd wb.drew) := Lib.hid ((below_then BJ.out BJ.out.size BB.out).drew)
              clear hcj hcj2 hcp2 hcp SB HRP2 HRP BB BJ
              go_wp2_with fail
              go_roundw
              case rel => exact ⟨j + 1, by omega, by go_num, BJ2.out⟩
              case measure => simp [intOf]; omega
            · go_wp2_with fail
              have BK := Lib.hid (below_then Bd.out Bd.out.size BJ.out)
              have SK := Lib.hid (Sd.out.below BJ.out)
              have OK := Lib.hid (Od.out.below BJ.out)
              go_roundw
              case rel =>
                exact ⟨k + 1, aN, P2, A7, c7, by omega, by omega, by go_num, by go_num, rfl, by omega, by omega, by omega, OK.out, SK.out, H7.out, BK.out⟩
              case measure => simp [intOf]; omega
        ·
          go_wp2_with fail
          refine (due_all _ (fun x => x ≠ sb ∧ some x ≠ (Value.slice A7 P2.length c7).ownBlock) sb win (a:Int) (P2.drop a) S7.out (by simp; omega) (by omega)).mono ?_
          rintro e wd ⟨Ad, cd, rfl, sd, bd⟩
          simp only [due_len, List.length_drop] at sd ⊢
          have SD := Lib.hid sd
          have BD := Lib.hid bd
          clear sd bd
          have hm2 : ((P2.length - a : Nat) : Int) = (P2.length : Int) - (a:Int) := by omega
          have hm3 : ¬ win < ((P2.length - a : Nat) : Int) := by omega
          have Sd := Lib.hid (S7.out.below BD.out)
          have Od := Lib.hid (O7.out.below BD.out)
          have Bd := Lib.hid (below_then B7.out B7.out.size BD.out)
          have hdlen : (P2.drop a).length = P2.length - a := by simp
          clear S7 O7 B7 BD
          go_wp2_with fail
          go_loopw [18] (fun jv wj => ∃ j : Nat, j ≤ P2.length - a ∧ jv = .int .i64 j ∧ Below wd.heap.size wd wj) (fun jv _ => (P2.length - a) - (intOf jv).toNat)
          case atStart => exact ⟨0, Nat.zero_le _, rfl, Below.refl _ _⟩
          case round =>
            obtain ⟨j, hj, rfl, hbj⟩ := hrel
            have BJ := Lib.hid hbj
            clear hbj
            by_cases hjl : j < P2.length - a
            · have hjP : a + j < P2.length := by omega
              have hdl2 : (dueOf (a:Int) (P2.length - a)).length = P2.length - a := due_len _ _
              obtain ⟨gd, od, hAd, _, hcd⟩ := SD.out.ints (by rw [hdl2]; omega)
              subst hAd
              have hcd1 := (hcd j (by rw [hdl2]; omega)).1
              have hdj : (dueOf (a:Int) (P2.length - a))[j]'(by rw [hdl2]; omega) = (a:Int) + 1 + j := by simp [dueOf]
              rw [hdj] at hcd1
              have hcj := cell_below BJ.out hcd1
              have x1 : bodyOk (a:Int) (P2.drop a) ((a:Int) + 1 + j) = true := by simp [bodyOk]; omega
              have x2 : bodyL (a:Int) (P2.drop a) ((a:Int) + 1 + j) = P2[a + j] := by
                unfold bodyL
                rw [x1, if_pos rfl, show ((a:Int) + 1 + (j : Int) - (a:Int) - 1).toNat = j by omega, List.getD_eq_getElem?_getD, List.getElem?_drop, List.getElem?_eq_getElem hjP]
                rfl
              obtain ⟨gp, op, Ap, cp, hAp, _, hcp, hrp⟩ := ((Od.out.sl (fun x => True) (fun _ _ => trivial) (fun _ _ h => Rep.mono (fun _ _ _ => ⟨trivial, rfl⟩) h)).below BJ.out).row (a + j) hjP
              subst hAp
              generalize P2[a + j] = rr at *
              have HRP := Lib.hid hrp
              have hj0 : (0 : Int) ≤ j := by omega
              have hjn : (j : Int) < ((P2.length - a : Nat) : Int) := by omega
              have hx0 : (1 : Int) ≤ (a:Int) + 1 + j := by omega
              have hx1 : (a:Int) + 1 + j - 1 < (P2.length : Int) := by omega
              have hx2 : ((a:Int) + 1 + (j : Int) - 1).toNat = a + j := by omega
              have hw1 : IntKind.i64.wrap ((a:Int) + 1) = (a:Int) + 1 := Go.IntWalk.i64_in _ (by omega)
              have hw2 : IntKind.i64.wrap ((a:Int) + 1 + (j : Int)) = (a:Int) + 1 + j := Go.IntWalk.i64_in _ (by omega)
              have hw3 : IntKind.i64.wrap ((a:Int) + 1 + (j : Int) - 1) = (a:Int) + 1 + j - 1 := Go.IntWalk.i64_in _ (by omega)
              clear hcd hcd1 hdj hrp
              clear hdl2
              go_wp2_with fail
              refine (body_any _ (fun x => x ≠ sb ∧ some x ≠ (Value.slice (some ⟨gp, op, none⟩) P2.length c7).ownBlock) sb win (a:Int) ((a:Int) + 1 + j) (P2.drop a) (Sd.out.below BJ.out) (by simp; omega) (by omega) (fun r' hr' => Nat.le_trans (H7.out r' (List.mem_of_mem_drop hr')) (by omega))).mono ?_
              rintro e wb ⟨⟨Ab, cb, rfl, sb1⟩, bb⟩
              rw [x2] at sb1 ⊢
              rw [x1]
              have SB := Lib.hid sb1
              have BB := Lib.hid bb
              have hcj2 := cell_below bb hcj
              have hcp2 := cell_below bb hcp
              have HRP2 := Lib.hid (HRP.out.below bb)
              clear sb1 bb x1 x2
              go_wp2_with fail
              have hS : wb.drew.cell? ⟨gd, od + j, none⟩ = some (.int .i64 ((a:Int) + 1 + j)) ∧ wb.drew.cell? ⟨gp, op + (a + j), none⟩ = some (.slice Ap rr.length cp) ∧ Sl wb.drew (fun _ => True) (.slice Ab rr.length cb) rr ∧ Sl wb.drew (fun _ => True) (.slice Ap rr.length cp) rr :=
                ⟨hcj2, hcp2, SB.out.weaken fun _ _ _ => trivial, HRP2.out⟩
              refine wp_regionF (fun w' => w'.cell? ⟨gd, od + j, none⟩ = some (.int .i64 ((a:Int) + 1 + j)) ∧ w'.cell? ⟨gp, op + (a + j), none⟩ = some (.slice Ap rr.length cp) ∧ Sl w' (fun _ => True) (.slice Ab rr.length cb) rr ∧ Sl w' (fun _ => True) (.slice Ap rr.length cp) rr) [] (by kernel_rfl) ?_
              refine wpF_take0 0 rfl (by kernel_rfl) (by kernel_rfl) (by kernel_rfl) (by kernel_rfl) no_panic (.inr hS) rfl ?_
              apply Exists.intro; refine ⟨fun w' => ?_, ?_⟩
              · go_simp; (try with_reducible rfl)
              simp only [Act.put, List.setIfInBounds_toArray, List.set_cons_zero, List.set_cons_succ, List.getElem_toArray, List.getElem_cons_zero, List.getElem_cons_succ]
              refine wpF_take0 1 rfl (by kernel_rfl) (by kernel_rfl) (by kernel_rfl) (by kernel_rfl) no_panic (.inr hS) rfl ?_
              apply Exists.intro; refine ⟨fun w' => ?_, ?_⟩
              · go_simp; (try with_reducible rfl)
              simp only [Act.put, List.setIfInBounds_toArray, List.set_cons_zero, List.set_cons_succ, List.getElem_toArray, List.getElem_cons_zero, List.getElem_cons_succ]
              refine wpF_take0 2 rfl (by kernel_rfl) (by kernel_rfl) (by kernel_rfl) (by kernel_rfl) no_panic (.inr hS) rfl ?_
              apply Exists.intro; refine ⟨fun w' => ?_, ?_⟩
              · go_simp; (try with_reducible rfl)
              simp only [Act.put, List.setIfInBounds_toArray, List.set_cons_zero, List.set_cons_succ, List.getElem_toArray, List.getElem_cons_zero, List.getElem_cons_succ]
              refine wpF_take 3 rfl (by kernel_rfl) (by kernel_rfl) (by kernel_rfl) (by kernel_rfl) (by kernel_rfl) no_panic hS rfl ?_
              apply Exists.intro; refine ⟨fun w' hw' => ?_, ?_⟩
              · (try dsimp only at hw'); go_simp; (try with_reducible rfl)
              simp only [Act.put, List.setIfInBounds_toArray, List.set_cons_zero, List.set_cons_succ, List.getElem_toArray, List.getElem_cons_zero, List.getElem_cons_succ]
              refine wpF_take0 4 rfl (by kernel_rfl) (by kernel_rfl) (by kernel_rfl) (by kernel_rfl) no_panic (.inr hS) rfl ?_
              apply Exists.intro; refine ⟨fun w' => ?_, ?_⟩
              · go_simp; (try with_reducible rfl)
              simp only [Act.put, List.setIfInBounds_toArray, List.set_cons_zero, List.set_cons_succ, List.getElem_toArray, List.getElem_cons_zero, List.getElem_cons_succ]
              refine wpF_take0 5 rfl (by kernel_rfl) (by kernel_rfl) (by kernel_rfl) (by kernel_rfl) no_panic (.inr hS) rfl ?_
              apply Exists.intro; refine ⟨fun w' => ?_, ?_⟩
              · go_simp; (try with_reducible rfl)
              simp only [Act.put, List.setIfInBounds_toArray, List.set_cons_zero, List.set_cons_succ, List.getElem_toArray, List.getElem_cons_zero, List.getElem_cons_succ]
              refine wpF_take0 6 rfl (by kernel_rfl) (by kernel_rfl) (by kernel_rfl) (by kernel_rfl) no_panic (.inr hS) rfl ?_
              apply Exists.intro; refine ⟨fun w' => ?_, ?_⟩
              · go_simp; (try with_reducible rfl)
              simp only [Act.put, List.setIfInBounds_toArray, List.set_cons_zero, List.set_cons_succ, List.getElem_toArray, List.getElem_cons_zero, List.getElem_cons_succ]
              refine wpF_take0 7 rfl (by kernel_rfl) (by kernel_rfl) (by kernel_rfl) (by kernel_rfl) no_panic (.inr hS) rfl ?_
              apply Exists.intro; refine ⟨fun w' => ?_, ?_⟩
              · go_simp; (try with_reducible rfl)
              simp only [Act.put, List.setIfInBounds_toArray, List.set_cons_zero, List.set_cons_succ, List.getElem_toArray, List.getElem_cons_zero, List.getElem_cons_succ]
              refine wpF_take0 8 rfl (by kernel_rfl) (by kernel_rfl) (by kernel_rfl) (by kernel_rfl) no_panic (.inr hS) rfl ?_
              apply Exists.intro; refine ⟨fun w' => ?_, ?_⟩
              · go_simp; (try with_reducible rfl)
              simp only [Act.put, List.setIfInBounds_toArray, List.set_cons_zero, List.set_cons_succ, List.getElem_toArray, List.getElem_cons_zero, List.getElem_cons_succ]
              refine wpF_take0 9 rfl (by kernel_rfl) (by kernel_rfl) (by kernel_rfl) (by kernel_rfl) no_panic (.inr hS) rfl ?_
              apply Exists.intro; refine ⟨fun w' => ?_, ?_⟩
              · go_simp; (try with_reducible rfl)
              simp only [Act.put, List.setIfInBounds_toArray, List.set_cons_zero, List.set_cons_succ, List.getElem_toArray, List.getElem_cons_zero, List.getElem_cons_succ]
              refine wpF_take0 10 rfl (by kernel_rfl) (by kernel_rfl) (by kernel_rfl) (by kernel_rfl) no_panic (.inr hS) rfl ?_
              apply Exists.intro; refine ⟨fun w' => ?_, ?_⟩
              · go_simp; (try with_reducible rfl)
              simp only [Act.put, List.setIfInBounds_toArray, List.set_cons_zero, List.set_cons_succ, List.getElem_toArray, List.getElem_cons_zero, List.getElem_cons_succ]
              refine wpF_take0 11 rfl (by kernel_rfl) (by kernel_rfl) (by kernel_rfl) (by kernel_rfl) no_panic (.inr hS) rfl ?_
              apply Exists.intro; refine ⟨fun w' => ?_, ?_⟩
              · go_simp; (try with_reducible rfl)
              simp only [Act.put, List.setIfInBounds_toArray, List.set_cons_zero, List.set_cons_succ, List.getElem_toArray, List.getElem_cons_zero, List.getElem_cons_succ]
              refine wpF_take0 12 rfl (by kernel_rfl) (by kernel_rfl) (by kernel_rfl) (by kernel_rfl) no_panic (.inr hS) rfl ?_
              apply Exists.intro; refine ⟨fun w' => ?_, ?_⟩
              · go_simp; (try with_reducible rfl)
              simp only [Act.put, List.setIfInBounds_toArray, List.set_cons_zero, List.set_cons_succ, List.getElem_toArray, List.getElem_cons_zero, List.getElem_cons_succ]
              refine wpF_take0 13 rfl (by kernel_rfl) (by kernel_rfl) (by kernel_rfl) (by kernel_rfl) no_panic (.inr hS) rfl ?_
              apply Exists.intro; refine ⟨fun w' => ?_, ?_⟩
              · go_simp; (try with_reducible rfl)
              simp only [Act.put, List.setIfInBounds_toArray, List.set_cons_zero, List.set_cons_succ, List.getElem_toArray, List.getElem_cons_zero, List.getElem_cons_succ]
              refine wpF_take0 14 rfl (by kernel_rfl) (by kernel_rfl) (by kernel_rfl) (by kernel_rfl) no_panic (.inr hS) rfl ?_
              apply Exists.intro; refine ⟨fun w' => ?_, ?_⟩
              · go_simp; (try with_reducible rfl)
              simp only [Act.put, List.setIfInBounds_toArray, List.set_cons_zero, List.set_cons_succ, List.getElem_toArray, List.getElem_cons_zero, List.getElem_cons_succ]
              refine wpF_take 15 rfl (by kernel_rfl) (by kernel_rfl) (by kernel_rfl) (by kernel_rfl) (by kernel_rfl) no_panic hS rfl ?_
              apply Exists.intro; refine ⟨fun w' hw' => ?_, ?_⟩
              · exact exec_convert 29 9 (.tmp 161) rfl rfl (Sl.string hw'.2.2.1 29 9 5 Try.underlying29 Try.underlying5 Try.underlying9)
              simp only [Act.put, List.setIfInBounds_toArray, List.set_cons_zero, List.set_cons_succ, List.getElem_toArray, List.getElem_cons_zero, List.getElem_cons_succ]
              refine wpF_take0 16 rfl (by kernel_rfl) (by kernel_rfl) (by kernel_rfl) (by kernel_rfl) no_panic (.inr hS) rfl ?_
              apply Exists.intro; refine ⟨fun w' => ?_, ?_⟩
              · go_simp; (try with_reducible rfl)
              simp only [Act.put, List.setIfInBounds_toArray, List.set_cons_zero, List.set_cons_succ, List.getElem_toArray, List.getElem_cons_zero, List.getElem_cons_succ]
              refine wpF_take0 17 rfl (by kernel_rfl) (by kernel_rfl) (by kernel_rfl) (by kernel_rfl) no_panic (.inr hS) rfl ?_
              apply Exists.intro; refine ⟨fun w' => ?_, ?_⟩
              · go_simp; (try with_reducible rfl)
              simp only [Act.put, List.setIfInBounds_toArray, List.set_cons_zero, List.set_cons_succ, List.getElem_toArray, List.getElem_cons_zero, List.getElem_cons_succ]
              refine wpF_take0 18 rfl (by kernel_rfl) (by kernel_rfl) (by kernel_rfl) (by kernel_rfl) no_panic (.inr hS) rfl ?_
              apply Exists.intro; refine ⟨fun w' => ?_, ?_⟩
              · go_simp; (try with_reducible rfl)
              simp only [Act.put, List.setIfInBounds_toArray, List.set_cons_zero, List.set_cons_succ, List.getElem_toArray, List.getElem_cons_zero, List.getElem_cons_succ]
              refine wpF_take0 19 rfl (by kernel_rfl) (by kernel_rfl) (by kernel_rfl) (by kernel_rfl) no_panic (.inr hS) rfl ?_
              apply Exists.intro; refine ⟨fun w' => ?_, ?_⟩
              · go_simp; (try with_reducible rfl)
              simp only [Act.put, List.setIfInBounds_toArray, List.set_cons_zero, List.set_cons_succ, List.getElem_toArray, List.getElem_cons_zero, List.getElem_cons_succ]
              refine wpF_take 20 rfl (by kernel_rfl) (by kernel_rfl) (by kernel_rfl) (by kernel_rfl) (by kernel_rfl) no_panic hS rfl ?_
              apply Exists.intro; refine ⟨fun w' hw' => ?_, ?_⟩
              · (try dsimp only at hw'); go_simp; (try with_reducible rfl)
              simp only [Act.put, List.setIfInBounds_toArray, List.set_cons_zero, List.set_cons_succ, List.getElem_toArray, List.getElem_cons_zero, List.getElem_cons_succ]
              refine wpF_take0 21 rfl (by kernel_rfl) (by kernel_rfl) (by kernel_rfl) (by kernel_rfl) no_panic (.inr hS) rfl ?_
              apply Exists.intro; refine ⟨fun w' => ?_, ?_⟩
              · go_simp; (try with_reducible rfl)
              simp only [Act.put, List.setIfInBounds_toArray, List.set_cons_zero, List.set_cons_succ, List.getElem_toArray, List.getElem_cons_zero, List.getElem_cons_succ]
              refine wpF_take0 22 rfl (by kernel_rfl) (by kernel_rfl) (by kernel_rfl) (by kernel_rfl) no_panic (.inr hS) rfl ?_
              apply Exists.intro; refine ⟨fun w' => ?_, ?_⟩
              · go_simp; (try with_reducible rfl)
              simp only [Act.put, List.setIfInBounds_toArray, List.set_cons_zero, List.set_cons_succ, List.getElem_toArray, List.getElem_cons_zero, List.getElem_cons_succ]
              refine wpF_take 23 rfl (by kernel_rfl) (by kernel_rfl) (by kernel_rfl) (by kernel_rfl) (by kernel_rfl) no_panic hS rfl ?_
              apply Exists.intro; refine ⟨fun w' hw' => ?_, ?_⟩
              · (try dsimp only at hw'); go_simp; (try with_reducible rfl)
              simp only [Act.put, List.setIfInBounds_toArray, List.set_cons_zero, List.set_cons_succ, List.getElem_toArray, List.getElem_cons_zero, List.getElem_cons_succ]
              refine wpF_take 24 rfl (by kernel_rfl) (by kernel_rfl) (by kernel_rfl) (by kernel_rfl) (by kernel_rfl) no_panic hS rfl ?_
              apply Exists.intro; refine ⟨fun w' hw' => ?_, ?_⟩
              · exact exec_convert 29 9 (.tmp 170) rfl rfl (Sl.string hw'.2.2.2 29 9 5 Try.underlying29 Try.underlying5 Try.underlying9)
              simp only [Act.put, List.setIfInBounds_toArray, List.set_cons_zero, List.set_cons_succ, List.getElem_toArray, List.getElem_cons_zero, List.getElem_cons_succ]
              refine wpF_take0 25 rfl (by kernel_rfl) (by kernel_rfl) (by kernel_rfl) (by kernel_rfl) no_panic (.inr hS) rfl ?_
              apply Exists.intro; refine ⟨fun w' => ?_, ?_⟩
              · go_simp; (try with_reducible rfl)
              simp only [Act.put, List.setIfInBounds_toArray, List.set_cons_zero, List.set_cons_succ, List.getElem_toArray, List.getElem_cons_zero, List.getElem_cons_succ]
              refine wpF_take0 26 rfl (by kernel_rfl) (by kernel_rfl) (by kernel_rfl) (by kernel_rfl) no_panic (.inr hS) rfl ?_
              apply Exists.intro; refine ⟨fun w' => ?_, ?_⟩
              · go_simp; (try with_reducible rfl)
              simp only [Act.put, List.setIfInBounds_toArray, List.set_cons_zero, List.set_cons_succ, List.getElem_toArray, List.getElem_cons_zero, List.getElem_cons_succ]
              refine wpF_done (by kernel_rfl) (NoPanic.normal ?_)
              clear hS
              have BJ2 : Hid (Below wd.heap.size wd wb.drew) := Lib.hid ((below_then BJ.out BJ.out.size BB.out).drew)
              clear hcj hcj2 hcp2 hcp SB HRP2 HRP BB BJ
              go_wp2_with fail
              go_roundw
              case rel => exact ⟨j + 1, by omega, by go_num, BJ2.out⟩
              case measure => simp [intOf]; omega
            · go_wp2_with fail
              have BK := Lib.hid (below_then Bd.out Bd.out.size BJ.out)
              have SK := Lib.hid (Sd.out.below BJ.out)
              have OK := Lib.hid (Od.out.below BJ.out)
              go_roundw
              case rel =>
                exact ⟨k + 1, a, P2, A7, c7, by omega, by omega, by go_num, by go_num, rfl, by omega, by omega, by omega, OK.out, SK.out, H7.out, BK.out⟩
              case measure => simp [intOf]; omega
    · have e2 : ackOk a (P.drop a) ((P.length : Int) + 1) = false := by simp [ackOk]; omega
      have f2 : ackE a (P.drop a) ((P.length : Int) + 1) = 22 := by unfold ackE; rw [e2]; rfl
      have hwl : IntKind.i64.wrap ((P.length : Int) + 1) = (P.length : Int) + 1 := Go.IntWalk.i64_in _ (by omega)
      by_cases h1 : k < l.length
      · have h2 : ¬ (k : Int) < 60 := by omega
        have h3 : (k : Int) < n1 := by have := HN.out; omega
        clear hlt h1
        go_wp2_with fail
        refine (ack_any _ (fun x => x ≠ sb ∧ some x ≠ (Value.slice A P.length c).ownBlock) sb win a ((P.length : Int) + 1) (P.drop a) HS.out (by simp) (by simp; omega) (by omega)).mono ?_
        rintro e w9 ⟨rfl, s9, g9⟩
        have B9 : Hid (Below w.heap.size w w9) := below_sender HB.out hsb HB.out.size g9
        rw [f2]
        go_wp2_with fail
        go_ret
        exact ⟨rfl, B9.out⟩
      · have h2 : ¬ (k : Int) < n1 := by have := HN.out; omega
        clear hlt h1
        go_wp2_with fail
        refine (ack_any _ (fun x => x ≠ sb ∧ some x ≠ (Value.slice A P.length c).ownBlock) sb win a ((P.length : Int) + 1) (P.drop a) HS.out (by simp) (by simp; omega) (by omega)).mono ?_
        rintro e w9 ⟨rfl, s9, g9⟩
        have B9 : Hid (Below w.heap.size w w9) := below_sender HB.out hsb HB.out.size g9
        rw [f2]
        go_wp2_with fail
        go_ret
        exact ⟨rfl, B9.out⟩
end Go.Proofs.Ythfbjapbfhafbaa
