/- SenderOwn: the walk. -/
import Derived.Test.YthfbjapbfhafbaaSenderH
import Derived.Deep.DeepCutAuto
import Derived.Lib.MinMax
set_option linter.unusedSimpArgs false
set_option linter.unusedVariables false
namespace Go.Proofs.Ythfbjapbfhafbaa
open Go.RowKit Go.Proofs Go.Trc

theorem cell_keep2 {w w' : World} (hb : Below w.heap.size w w') {p : Addr} {v : Value} (h : w.cell? p = some v) : w'.cell? p = some v := (hb.cell (World.block_lt_of_cell? w p h)).trans h

theorem sl_bytes_made (W : World) (ok : Nat → Prop) (e : TypeId) (fr : Nat × Nat) (xs : List UInt8) (arr : Array Value) (ha : arr.toList = xs.map fun x => Value.int .u8 (x.toNat : Int)) (hm : xs.length ≤ 9223372036854775807) (hb : ok W.heap.size) :
    Sl (W.alloc (.cells arr e fr)) ok (.slice (some ⟨W.heap.size, 0, none⟩) xs.length xs.length) xs := by
  refine ⟨_, xs.length, rfl, Nat.le_refl _, hm, fun h => by simp at h, fun _ => ⟨W.heap.size, 0, rfl, hb, ?_⟩⟩
  refine Cells.of_block (heap_alloc_new W _) arr.toList (fun j hj => by simp) (fun j hj => ?_)
  rw [ha, show Rep.sz UInt8 = 1 from rfl, Nat.mul_one, List.drop_eq_getElem_cons (by simpa using hj), List.take_succ_cons, List.take_zero, List.getElem_map]
  exact rfl

/-- A block of one's own is stored to. -/
theorem below_set {B g k : Nat} {w w' : World} (h : Below B w w') (hB : B ≤ w'.heap.size) (hg : B ≤ g) (v : Value) : Below B w (w'.setCell ⟨g, k, none⟩ v) :=
  h.grown (grown_set (World.grownBy.refl _ _) v) hB fun k' e => by injection e; omega

theorem sender_set {w : World} {sb g k n c : Nat} {win acked : Int} {kept : List (List UInt8)} (h : SenderAt w (fun x => x ≠ sb ∧ some x ≠ (Value.slice (some ⟨g, 0, none⟩) n c).ownBlock) sb win acked kept) (hne : sb ≠ g) (v : Value) :
    SenderAt (w.setCell ⟨g, k, none⟩ v) (fun x => x ≠ sb ∧ some x ≠ (Value.slice (some ⟨g, 0, none⟩) n c).ownBlock) sb win acked kept :=
  h.weaken (Below.heap_setCell w ⟨g, k, none⟩ v sb (fun e => hne (by simpa using e))) fun x hx _ => ⟨hx, Below.heap_setCell w ⟨g, k, none⟩ v x (fun e => hx.2 (by simp only at e; simp [Value.ownBlock, e]))⟩

/-- A row of one's own lies at a block that can be stored to. -/
def RowAt (w : World) (B : Nat) (A : Option Addr) (n : Nat) : Prop := 0 < n → ∃ g cs, A = some ⟨g, 0, none⟩ ∧ B ≤ g ∧ w.heap[g]? = some (.cells cs 5 (0, 0)) ∧ n ≤ cs.size
theorem RowAt.of {w : World} {B c : Nat} {ok : Nat → Prop} {A : Option Addr} {xs : List UInt8} (h : Own w B 5 ok (.slice A xs.length c) xs) : RowAt w B A xs.length := fun hp => own_block h hp
theorem RowAt.set {w : World} {B n : Nat} {g k : Nat} (h : RowAt w B (some ⟨g, 0, none⟩) n) (v : Value) : RowAt (w.setCell ⟨g, k, none⟩ v) B (some ⟨g, 0, none⟩) n := fun hp => by
  obtain ⟨g', cs, e, hB, hg, hn⟩ := h hp
  injection e with e
  injection e with e _ _
  subst e
  obtain ⟨cs', h1, h2⟩ := row_set (k := k) hg hn v
  exact ⟨g, cs', rfl, hB, h1, h2⟩
theorem RowAt.below {w w' : World} {B n : Nat} {A : Option Addr} (h : RowAt w B A n) (hb : Below w.heap.size w w') : RowAt w' B A n := fun hp => by
  obtain ⟨g', cs, e, hB, hg, hn⟩ := h hp
  exact ⟨g', cs, e, hB, (hb.block _ (Array.getElem?_eq_some_iff.1 hg).1).trans hg, hn⟩

set_option maxRecDepth 100000 in
set_option maxHeartbeats 4000000 in
theorem senderOwn_walk (w : World) (A1 : Option Addr) (n1 c1 : Nat) (l : List (List UInt8)) (hl : Sl w (fun b => b < w.heap.size) (.slice A1 n1 c1) l) (a0 : Int) (b0 : -9223372036854775808 ≤ a0 ∧ a0 ≤ 9223372036854775807)  :
    Calls Try.prog 5 #[.slice A1 n1 c1, .int .i64 a0] w fun e w' => e = .returned (.bool true) ∧ Below w.heap.size w w' := by
  obtain ⟨hn1, hn2, hn3⟩ := hl.len_eq
  have HL := Lib.hid hl
  have HN := Lib.hid hn1
  clear hl hn1
  go_enter Try.func5, Try.ntmps5
  go_wp2_with fail
  refine (shown_ok _).mono ?_
  rintro e w1 ⟨rfl, b1⟩
  have B1 := Lib.hid b1
  clear b1
  go_wp2_with fail
  refine (new_all 16 _ (by decide) (fun x => x ≠ w1.heap.size)).mono ?_
  rintro e w2 ⟨rfl, s2, b2⟩
  have hsb : w.heap.size ≤ w1.heap.size := B1.out.size
  obtain ⟨sb, hsbe⟩ : ∃ sb, sb = w1.heap.size := ⟨_, rfl⟩
  rw [← hsbe] at s2 hsb ⊢
  have S2 : Hid (SenderAt w2 (fun x => x ≠ sb) sb 16 0 []) := Lib.hid s2
  have B2 : Hid (Below w.heap.size w w2) := below_then B1.out (by rw [← hsbe]; exact hsb) b2
  clear s2 b2 B1 hsbe
  go_wp2_with fail
  obtain ⟨N, hN⟩ : ∃ N : Nat, min (n1 : Int) 16 = (N : Int) := ⟨min n1 16, by omega⟩
  rw [hN]
  have hN16 : N ≤ 16 := by omega
  have hNl : N ≤ l.length := by have := HN.out; omega
  have hNn : N ≤ n1 := by omega
  clear hN
  go_loopw [8] (fun i wr => ∃ (k : Nat), k ≤ N ∧ i = .int .i64 k ∧ SenderAt wr (fun x => x ≠ sb) sb 16 0 ((l.take k).map cut60) ∧ Below w.heap.size w wr)
    (fun i _ => N - (intOf i).toNat)
  case atStart => exact ⟨0, Nat.zero_le _, rfl, S2.out, B2.out⟩
  case round =>
    obtain ⟨k, hk16, rfl, i5, i7⟩ := hrel
    have HB := Lib.hid i7
    have hsz := i7.size
    have hlts := i5.lt
    clear i7
    by_cases hlt : k < N
    · have hkl : k < l.length := by omega
      obtain ⟨g, o, Ak, ck, hA1, hgl, hcell, hrow⟩ := (HL.out.below HB.out).row k hkl
      subst hA1
      have hlen60 : (cut60 l[k]).length ≤ 60 := by simp [cut60]; omega
      obtain ⟨P, hP⟩ : ∃ P, P = (l.take k).map cut60 := ⟨_, rfl⟩
      have hPl : P.length = k := by rw [hP]; simp; omega
      have hPs : P ++ [cut60 l[k]] = (l.take (k + 1)).map cut60 := by rw [hP, ← List.take_append_getElem hkl, List.map_append]; rfl
      rw [← hP] at i5
      have HS := Lib.hid i5
      have HPS := Lib.hid hPs
      clear hP hPs i5
      generalize l[k] = r at *
      have HR := Lib.hid hrow
      have hkn : (k : Int) < n1 := by omega
      have hkn' : k < n1 := by omega
      have hkN : (k : Int) < N := by omega
      have hk0 : (0 : Int) ≤ k := by omega
      have hcell' := cell_alloc hcell
      clear hrow
      go_wp2_with fail
      refine (short_any _ (fun b => b < w.heap.size) _ r (HR.out.alloc _)).mono ?_
      rintro e w3 ⟨⟨v3, rfl, h3⟩, rfl⟩
      obtain ⟨A3, c3, rfl, _⟩ := id h3
      have H3 := Lib.hid h3
      clear h3
      obtain ⟨cr, hcre⟩ : ∃ cr, cr = cut60 r := ⟨_, rfl⟩
      rw [← hcre] at H3 HPS hlen60 ⊢
      clear hcre
      go_wp2_with (at_builtin; refine wpList_append_own' (α := UInt8) (xs := []) (ys := cr) rfl (.tmp 37) (.tmp 42) 29 5 rfl (.int .u8 0) 1 Try.underlying29 bytesInfo rfl wr.heap.size (ok := fun _ => False) (ok2 := fun b => b < w.heap.size) rfl rfl (Own.made _ _ _ _ (Nat.le_refl _)) H3.out.arg (fun _ h => h.elim) (fun _ _ h => h) (by simp) (by simp; omega) (by simp; omega) cr.length (by simp) ?_)
      intro A4 c4 w4 o4 g4 _
      have B4 : Hid (Below wr.heap.size wr w4) := below_append (Below.refl _ _) (Nat.le_refl _) g4 (by simp [Value.ownBlock])
      have O4 : Hid (Own w4 wr.heap.size 5 (fun _ => False) (.slice A4 cr.length c4) cr) := o4
      clear o4 g4
      go_wp2_with fail
      refine (push_any _ (fun x => x ≠ sb ∧ some x ≠ (Value.slice A4 cr.length c4).ownBlock) (fun x => True) sb 16 0 P _ cr ((HS.out.weaken rfl (fun x hx hl => ⟨⟨hx, fun e => by have := O4.out.base x e.symm; omega⟩, rfl⟩)).below B4.out) (own_bytes_sl O4.out _ fun _ _ => trivial) (by simp) (fun x hx => by have h1 := B4.out.size; refine ⟨by omega, fun e => ?_⟩; have := (O4.out.lt x e.symm).2; omega) (by omega) (by omega) (by omega)).mono ?_
      rintro e w5 ⟨rfl, s5, g5⟩
      have p3 : pushK 16 P cr = P ++ [cr] := by unfold pushK; rw [if_pos (by omega)]
      rw [p3, HPS.out] at s5
      have B5 : Hid (Below w.heap.size w w5) := below_sender (below_then HB.out hsz B4.out) hsb (Nat.le_trans hsz B4.out.size) g5
      have S5 := Lib.hid s5
      have R5 : Hid (RowAt w5 wr.heap.size A4 cr.length) := Lib.hid (RowAt.of (ok := fun _ => False) (O4.out.mono g5 (.inr fun e => by have := O4.out.base sb e; omega) fun b hb => hb.elim))
      clear p3 s5 g5 O4 B4 H3 HR HS HB hcell hcell'
      go_wp2_with fail
      go_loopw [10] (fun jv wj => ∃ j : Nat, j ≤ cr.length ∧ jv = .int .i64 j ∧ SenderAt wj (fun x => x ≠ sb ∧ some x ≠ (Value.slice A4 cr.length c4).ownBlock) sb 16 0 ((l.take (k + 1)).map cut60) ∧ RowAt wj wr.heap.size A4 cr.length ∧ Below w.heap.size w wj) (fun jv _ => cr.length - (intOf jv).toNat)
      case atStart => exact ⟨0, Nat.zero_le _, rfl, S5.out, R5.out, B5.out⟩
      case round =>
        obtain ⟨j, hj, rfl, hsj, hrj, hbj⟩ := hrel
        have SJ := Lib.hid hsj
        have RJ := Lib.hid hrj
        have BJ := Lib.hid hbj
        clear hsj hrj hbj S5 R5 B5
        by_cases hjl : j < cr.length
        · obtain ⟨g', cs, hA4, hgw, hg', hcs⟩ := RJ.out (by omega)
          subst hA4
          obtain ⟨v0, hc0, hf0⟩ := row_cell hg' hcs hjl
          have hj0 : (0 : Int) ≤ j := by omega
          have hjn : (j : Int) < cr.length := by omega
          clear hg' hcs cs
          go_wp2_with fail
          go_roundw
          case rel => exact ⟨j + 1, by omega, by go_num, sender_set SJ.out (by omega) _, RJ.out.set _, below_set BJ.out BJ.out.size (by omega) _⟩
          case measure => simp [intOf]; omega
        · go_wp2_with fail
          go_roundw
          case rel => exact ⟨k + 1, by omega, by go_num, SJ.out.weaken rfl (fun x hx _ => ⟨hx.1, rfl⟩), BJ.out⟩
          case measure => simp [intOf]; omega
    · have hkN : k = N := by omega
      subst hkN
      obtain ⟨P, hP⟩ : ∃ P, P = (l.take k).map cut60 := ⟨_, rfl⟩
      have hPl : P.length = k := by rw [hP]; simp; omega
      have HPi : Hid (∀ i (h : i < P.length) (h' : i < l.length), P[i] = cut60 l[i]) := Lib.hid fun i h h' => by subst hP; simp
      have HP60 : Hid (∀ r ∈ P, r.length ≤ 60) := Lib.hid fun r hr => by rw [hP] at hr; obtain ⟨x, _, rfl⟩ := List.mem_map.1 hr; simp [cut60]; omega
      rw [← hP] at i5
      clear hP
      have HS := Lib.hid i5
      clear i5
      go_wp2_with fail
      refine (clone_all _ (fun x => x ≠ sb) (fun x => x ≠ sb ∧ x ≠ wr.heap.size) sb 16 0 P HS.out (fun x hx hl => ⟨hx, by omega⟩)).mono ?_
      rintro e w3 ⟨rfl, sc3, b3⟩
      have ss3 : SenderAt w3 (fun x => x ≠ sb ∧ x ≠ wr.heap.size) sb 16 0 P := (HS.out.weaken rfl (fun x hx hl => ⟨⟨hx, by omega⟩, rfl⟩)).below b3
      have B3 : Hid (Below w.heap.size w w3) := below_then HB.out hsz b3
      obtain ⟨cb, hcb⟩ : ∃ cb, cb = wr.heap.size := ⟨_, rfl⟩
      rw [← hcb] at sc3 ss3 hsz hlts ⊢
      have SC3 := Lib.hid sc3
      have SS3 := Lib.hid ss3
      clear sc3 ss3 b3 hcb HS HB S2 B2
      obtain ⟨M, hM⟩ : ∃ M : Nat, min (max a0 0) (k : Int) = (M : Int) := ⟨(min (max a0 0) (k : Int)).toNat, by omega⟩
      have hMk : M ≤ k := by omega
      have e1 : ackOk 0 P M = true := by simp [ackOk]; omega
      have f1 : ackE 0 P M = 0 := by unfold ackE; rw [e1]; rfl
      have f3 : ackA 0 P M = M := by unfold ackA; rw [e1]; rfl
      have f5 : ackK 0 P M = P.drop M := by unfold ackK; rw [e1, if_pos rfl, show ((M : Int) - 0).toNat = M by omega]
      go_wp2_with fail
      try rw [hM]
      refine (ack_any _ (fun x => x ≠ sb ∧ x ≠ cb) cb 16 0 (M : Int) P SC3.out (by simp) (by omega) (by omega)).mono ?_
      rintro e w4 ⟨rfl, s4, g4⟩
      rw [f3, f5] at s4
      rw [f1]
      have SC4 := Lib.hid s4
      have SS4 : Hid (SenderAt w4 (fun x => x ≠ sb ∧ x ≠ cb) sb 16 0 P) := SS3.out.weaken (g4.block sb SS3.out.lt (by simp; omega)) (fun x hx hl => ⟨hx, g4.block x hl (by simp; exact hx.2)⟩)
      have B4 : Hid (Below w.heap.size w w4) := below_sender B3.out hsz B3.out.size g4
      clear s4 g4 f1 f3 f5 e1 SC3 SS3 B3
      go_wp2_with fail
      refine (due_all _ (fun x => x ≠ sb ∧ x ≠ cb) cb 16 M (P.drop M) SC4.out (by simp; omega) (by omega)).mono ?_
      rintro e w5 ⟨A5, c5, rfl, _, b5⟩
      simp only [due_len, List.length_drop, hPl]
      have SC5 := Lib.hid (SC4.out.below b5)
      have SS5 := Lib.hid (SS4.out.below b5)
      have B5 := Lib.hid (below_then B4.out B4.out.size b5)
      have hm2 : ((k - M : Nat) : Int) = (k : Int) - M := by omega
      have hwm : IntKind.i64.wrap ((k : Int) - M) = (k : Int) - M := Go.IntWalk.i64_in _ (by omega)
      clear b5 SC4 SS4 B4
      go_wp2_with fail
      refine (due_all _ (fun x => x ≠ sb ∧ x ≠ cb) sb 16 0 P SS5.out (by omega) (by omega)).mono ?_
      rintro e w6 ⟨A6, c6, rfl, _, b6⟩
      simp only [due_len, hPl]
      have SC6 := Lib.hid (SC5.out.below b6)
      have SS6 := Lib.hid (SS5.out.below b6)
      have B6 := Lib.hid (below_then B5.out B5.out.size b6)
      have kc := fun (w : World) (C : Array Value) (n c : Nat) => Lib.run_convert_bytes_const (P := Try.prog) w 29 5 C n c Try.underlying29 Try.underlying5
      clear b6 SC5 SS5 B5
      go_wp2_with fail
      refine (push_any _ (fun x => x ≠ sb ∧ x ≠ cb) (fun _ => True) cb 16 M (P.drop M) _ [111, 116, 104, 101, 114] (SC6.out.below ((Below.refl _ _).alloc (Nat.le_refl _) _)) (sl_bytes_made _ _ _ _ _ _ rfl (by simp) trivial) (by simp) (fun x hx => by have := SC6.out.lt; have := SS6.out.lt; simp at hx; omega) (by simp; omega) (by omega) (by simp)).mono ?_
      rintro e w7 ⟨rfl, s7, g7⟩
      have SS7 : Hid (SenderAt w7 (fun x => x ≠ sb ∧ x ≠ cb) sb 16 0 P) := (SS6.out.below ((Below.refl _ _).alloc (Nat.le_refl _) _)).weaken (g7.block sb (Nat.lt_of_lt_of_le SS6.out.lt (by simp)) (by simp; omega)) (fun x hx hl => ⟨hx, g7.block x hl (by simp; exact hx.2)⟩)
      have B7 : Hid (Below w.heap.size w w7) := below_sender (B6.out.alloc B6.out.size _) hsz (Nat.le_trans B6.out.size (by simp)) g7
      have hKl : k - M ≤ (pushK 16 (P.drop M) [111, 116, 104, 101, 114]).length ∧ (pushK 16 (P.drop M) [111, 116, 104, 101, 114]).length ≤ 17 := by
        unfold pushK
        split <;> simp <;> omega
      have hK6 : ∀ r ∈ pushK 16 (P.drop M) [111, 116, 104, 101, 114], r.length ≤ 60 := by
        intro r hr
        unfold pushK at hr
        split at hr
        · rcases List.mem_append.1 hr with h | h
          · exact HP60.out r (List.mem_of_mem_drop h)
          · simp at h; subst h; simp
        · exact HP60.out r (List.mem_of_mem_drop hr)
      generalize pushK 16 (P.drop M) [111, 116, 104, 101, 114] = K at *
      have HK6 := Lib.hid hK6
      have SC7 := Lib.hid s7
      clear s7 g7 hK6 SC6 SS6 B6 kc
      go_wp2_with fail
      go_loopw [13] (fun i wq => ∃ (i0 : Nat), i0 ≤ k ∧ i = .int .i64 i0 ∧ SenderAt wq (fun x => x ≠ sb ∧ x ≠ cb) sb 16 0 P ∧ SenderAt wq (fun x => x ≠ sb ∧ x ≠ cb) cb 16 M K ∧ Below w.heap.size w wq)
        (fun i _ => k - (intOf i).toNat)
      case atStart => exact ⟨0, Nat.zero_le _, rfl, SS7.out, SC7.out, B7.out⟩
      case round =>
        rename World => wq
        obtain ⟨i, hik, rfl, iS, iC, iB⟩ := hrel
        have SQ := Lib.hid iS
        have CQ := Lib.hid iC
        have BQ := Lib.hid iB
        have hqs := iB.size
        clear iS iC iB SS7 SC7 B7
        by_cases hlt : i < k
        · have hil : i < l.length := by omega
          obtain ⟨g, o, Ak, ck, hA1, hgl, hcell, hrow⟩ := (HL.out.below BQ.out).row i hil
          subst hA1
          have hiP : i < P.length := by omega
          have hPc := HPi.out i hiP hil
          have hlen60 : P[i].length ≤ 60 := HP60.out _ (List.getElem_mem hiP)
          generalize l[i] = r at *
          have HR := Lib.hid hrow
          have hin : (i : Int) < n1 := by omega
          have hin' : i < n1 := by omega
          have hik' : (i : Int) < k := by omega
          have hi0 : (0 : Int) ≤ i := by omega
          have hwi : IntKind.i64.wrap ((i : Int) + 1) = (i : Int) + 1 := Go.IntWalk.i64_in _ (by omega)
          have hbo := fun (w : World) (h : SenderAt w (fun x => x ≠ sb ∧ x ≠ cb) sb 16 0 P) => body_own_any w (fun x => x ≠ sb ∧ x ≠ cb) sb i 16 0 P h (by omega) (by omega) hiP (by omega)
          rw [show (0 : Int) + 1 + (i : Int) = (i : Int) + 1 by omega] at hbo
          generalize P[i] = cr at *
          have HCR := Lib.hid hPc
          have HBO := Lib.hid hbo
          clear hrow hPc hbo
          go_wp2_with fail
          refine (HBO.out _ SQ.out).mono ?_
          rintro e wb ⟨Ab, cb2, rfl, ob, bb⟩
          have RB := Lib.hid (RowAt.of ob)
          have SB := Lib.hid (own_bytes_sl ob (fun _ => True) fun _ _ => trivial)
          have BB : Hid (Below wq.heap.size wq wb) := bb
          clear ob bb
          go_wp2_with fail
          refine (body_any _ (fun x => x ≠ sb ∧ x ≠ cb) cb 16 M ((i : Int) + 1) K (CQ.out.below BB.out) (by omega) (by omega) (fun r hr => Nat.le_trans (HK6.out r hr) (by omega))).mono ?_
          rintro e wc ⟨⟨Ac, cc, rfl, _⟩, bc⟩
          have hq : bodyOk M K ((i : Int) + 1) = decide ((M : Int) ≤ i) := by
            simp only [bodyOk]
            by_cases h : (M : Int) ≤ i
            · simp [h]; omega
            · simp [h]; omega
          rw [hq]
          generalize bodyL M K ((i : Int) + 1) = bl
          have RC := Lib.hid (RB.out.below bc)
          have SBC := Lib.hid (SB.out.below bc)
          have BC : Hid (Below wq.heap.size wq wc) := below_then BB.out BB.out.size bc
          have hcellc := cell_keep2 BC.out hcell
          have HRC := Lib.hid (HR.out.below BC.out)
          clear bc RB SB BB hq
          go_wp2_with fail
          have hS : wc.drew.cell? ⟨g, o + i, none⟩ = some (.slice Ak r.length ck) ∧ Sl wc.drew (fun x => True) (.slice Ab cr.length cb2) cr := ⟨hcellc, SBC.out⟩
          refine wp_regionF (fun w' => w'.cell? ⟨g, o + i, none⟩ = some (.slice Ak r.length ck) ∧ Sl w' (fun x => True) (.slice Ab cr.length cb2) cr) [] (by kernel_rfl) ?_
          refine wpF_take0 0 rfl (by kernel_rfl) (by kernel_rfl) (by kernel_rfl) (by kernel_rfl) no_panic (.inr hS) rfl ?_
          apply Exists.intro; refine ⟨fun w' => ?_, ?_⟩
          · go_simp; (try with_reducible rfl)
          simp only [Act.put, List.setIfInBounds_toArray, List.set_cons_zero, List.set_cons_succ, List.getElem_toArray, List.getElem_cons_zero, List.getElem_cons_succ]
          refine wpF_take0 1 rfl (by kernel_rfl) (by kernel_rfl) (by kernel_rfl) (by kernel_rfl) no_panic (.inr hS) rfl ?_
          apply Exists.intro; refine ⟨fun w' => ?_, ?_⟩
          · go_simp; (try with_reducible rfl)
          simp only [Act.put, List.setIfInBounds_toArray, List.set_cons_zero, List.set_cons_succ, List.getElem_toArray, List.getElem_cons_zero, List.getElem_cons_succ]
          refine wpF_take0 2 rfl (by kernel_rfl) (by kernel_rfl) (by kernel_rfl) (by kernel_rfl) no_panic (.inr hS) rfl ?_
          apply Exists.intro; refine ⟨fun w' => ?_, ?_⟩
          · go_simp; (try with_reducible rfl)
          simp only [Act.put, List.setIfInBounds_toArray, List.set_cons_zero, List.set_cons_succ, List.getElem_toArray, List.getElem_cons_zero, List.getElem_cons_succ]
          refine wpF_take0 3 rfl (by kernel_rfl) (by kernel_rfl) (by kernel_rfl) (by kernel_rfl) no_panic (.inr hS) rfl ?_
          apply Exists.intro; refine ⟨fun w' => ?_, ?_⟩
          · go_simp; (try with_reducible rfl)
          simp only [Act.put, List.setIfInBounds_toArray, List.set_cons_zero, List.set_cons_succ, List.getElem_toArray, List.getElem_cons_zero, List.getElem_cons_succ]
          refine wpF_take 4 rfl (by kernel_rfl) (by kernel_rfl) (by kernel_rfl) (by kernel_rfl) (by kernel_rfl) no_panic hS rfl ?_
          apply Exists.intro; refine ⟨fun w' hw' => ?_, ?_⟩
          · exact exec_convert 29 9 (.tmp 110) rfl rfl (Sl.string hw'.2 29 9 5 Try.underlying29 Try.underlying5 Try.underlying9)
          simp only [Act.put, List.setIfInBounds_toArray, List.set_cons_zero, List.set_cons_succ, List.getElem_toArray, List.getElem_cons_zero, List.getElem_cons_succ]
          refine wpF_take0 5 rfl (by kernel_rfl) (by kernel_rfl) (by kernel_rfl) (by kernel_rfl) no_panic (.inr hS) rfl ?_
          apply Exists.intro; refine ⟨fun w' => ?_, ?_⟩
          · go_simp; (try with_reducible rfl)
          simp only [Act.put, List.setIfInBounds_toArray, List.set_cons_zero, List.set_cons_succ, List.getElem_toArray, List.getElem_cons_zero, List.getElem_cons_succ]
          refine wpF_take0 6 rfl (by kernel_rfl) (by kernel_rfl) (by kernel_rfl) (by kernel_rfl) no_panic (.inr hS) rfl ?_
          apply Exists.intro; refine ⟨fun w' => ?_, ?_⟩
          · go_simp; (try with_reducible rfl)
          simp only [Act.put, List.setIfInBounds_toArray, List.set_cons_zero, List.set_cons_succ, List.getElem_toArray, List.getElem_cons_zero, List.getElem_cons_succ]
          refine wpF_take0 7 rfl (by kernel_rfl) (by kernel_rfl) (by kernel_rfl) (by kernel_rfl) no_panic (.inr hS) rfl ?_
          apply Exists.intro; refine ⟨fun w' => ?_, ?_⟩
          · go_simp; (try with_reducible rfl)
          simp only [Act.put, List.setIfInBounds_toArray, List.set_cons_zero, List.set_cons_succ, List.getElem_toArray, List.getElem_cons_zero, List.getElem_cons_succ]
          refine wpF_take 8 rfl (by kernel_rfl) (by kernel_rfl) (by kernel_rfl) (by kernel_rfl) (by kernel_rfl) no_panic hS rfl ?_
          apply Exists.intro; refine ⟨fun w' hw' => ?_, ?_⟩
          · (try dsimp only at hw'); go_simp; (try with_reducible rfl)
          simp only [Act.put, List.setIfInBounds_toArray, List.set_cons_zero, List.set_cons_succ, List.getElem_toArray, List.getElem_cons_zero, List.getElem_cons_succ]
          refine wpF_do 9 (by kernel_rfl) rfl rfl (fun K hK => ?_)
          go_simp
          refine (short_any _ (fun b => b < w.heap.size) _ r (by exact HRC.out)).mono ?_
          rintro e w8 ⟨⟨v8, rfl, h8⟩, rfl⟩
          rw [← HCR.out] at h8
          have H8 := Lib.hid h8
          clear h8
          refine hK.out _ _ ?_ (fun hS9 => ?_)
          · exact hS
          clear hK K
          try simp only [Act.put, List.setIfInBounds_toArray, List.set_cons_zero, List.set_cons_succ, List.getElem_toArray, List.getElem_cons_zero, List.getElem_cons_succ]
          refine wpF_do 10 (by kernel_rfl) rfl rfl (fun K hK => ?_)
          refine wp_run (exec_convert 29 9 (.tmp 116) rfl rfl (Sl.string H8.out 29 9 5 Try.underlying29 Try.underlying5 Try.underlying9)) ?_
          refine hK.out _ _ ?_ (fun hS10 => ?_)
          · exact hS9
          clear hK K
          try simp only [Act.put, List.setIfInBounds_toArray, List.set_cons_zero, List.set_cons_succ, List.getElem_toArray, List.getElem_cons_zero, List.getElem_cons_succ]
          refine wpF_take0 11 rfl (by kernel_rfl) (by kernel_rfl) (by kernel_rfl) (by kernel_rfl) no_panic (.inr hS10) rfl ?_
          apply Exists.intro; refine ⟨fun w' => ?_, ?_⟩
          · go_simp; (try with_reducible rfl)
          simp only [Act.put, List.setIfInBounds_toArray, List.set_cons_zero, List.set_cons_succ, List.getElem_toArray, List.getElem_cons_zero, List.getElem_cons_succ]
          refine wpF_take0 12 rfl (by kernel_rfl) (by kernel_rfl) (by kernel_rfl) (by kernel_rfl) no_panic (.inr hS10) rfl ?_
          apply Exists.intro; refine ⟨fun w' => ?_, ?_⟩
          · go_simp; (try with_reducible rfl)
          simp only [Act.put, List.setIfInBounds_toArray, List.set_cons_zero, List.set_cons_succ, List.getElem_toArray, List.getElem_cons_zero, List.getElem_cons_succ]
          refine wpF_take0 13 rfl (by kernel_rfl) (by kernel_rfl) (by kernel_rfl) (by kernel_rfl) no_panic (.inr hS10) rfl ?_
          apply Exists.intro; refine ⟨fun w' => ?_, ?_⟩
          · go_simp; (try with_reducible rfl)
          simp only [Act.put, List.setIfInBounds_toArray, List.set_cons_zero, List.set_cons_succ, List.getElem_toArray, List.getElem_cons_zero, List.getElem_cons_succ]
          refine wpF_take0 14 rfl (by kernel_rfl) (by kernel_rfl) (by kernel_rfl) (by kernel_rfl) no_panic (.inr hS10) rfl ?_
          apply Exists.intro; refine ⟨fun w' => ?_, ?_⟩
          · go_simp; (try with_reducible rfl)
          simp only [Act.put, List.setIfInBounds_toArray, List.set_cons_zero, List.set_cons_succ, List.getElem_toArray, List.getElem_cons_zero, List.getElem_cons_succ]
          refine wpF_take0 15 rfl (by kernel_rfl) (by kernel_rfl) (by kernel_rfl) (by kernel_rfl) no_panic (.inr hS10) rfl ?_
          apply Exists.intro; refine ⟨fun w' => ?_, ?_⟩
          · go_simp; (try with_reducible rfl)
          simp only [Act.put, List.setIfInBounds_toArray, List.set_cons_zero, List.set_cons_succ, List.getElem_toArray, List.getElem_cons_zero, List.getElem_cons_succ]
          refine wpF_take0 16 rfl (by kernel_rfl) (by kernel_rfl) (by kernel_rfl) (by kernel_rfl) no_panic (.inr hS10) rfl ?_
          apply Exists.intro; refine ⟨fun w' => ?_, ?_⟩
          · go_simp; (try with_reducible rfl)
          simp only [Act.put, List.setIfInBounds_toArray, List.set_cons_zero, List.set_cons_succ, List.getElem_toArray, List.getElem_cons_zero, List.getElem_cons_succ]
          refine wpF_take0 17 rfl (by kernel_rfl) (by kernel_rfl) (by kernel_rfl) (by kernel_rfl) no_panic (.inr hS10) rfl ?_
          apply Exists.intro; refine ⟨fun w' => ?_, ?_⟩
          · go_simp; (try with_reducible rfl)
          simp only [Act.put, List.setIfInBounds_toArray, List.set_cons_zero, List.set_cons_succ, List.getElem_toArray, List.getElem_cons_zero, List.getElem_cons_succ]
          refine wpF_take0 18 rfl (by kernel_rfl) (by kernel_rfl) (by kernel_rfl) (by kernel_rfl) no_panic (.inr hS10) rfl ?_
          apply Exists.intro; refine ⟨fun w' => ?_, ?_⟩
          · go_simp; (try with_reducible rfl)
          simp only [Act.put, List.setIfInBounds_toArray, List.set_cons_zero, List.set_cons_succ, List.getElem_toArray, List.getElem_cons_zero, List.getElem_cons_succ]
          refine wpF_take0 19 rfl (by kernel_rfl) (by kernel_rfl) (by kernel_rfl) (by kernel_rfl) no_panic (.inr hS10) rfl ?_
          apply Exists.intro; refine ⟨fun w' => ?_, ?_⟩
          · go_simp; (try with_reducible rfl)
          simp only [Act.put, List.setIfInBounds_toArray, List.set_cons_zero, List.set_cons_succ, List.getElem_toArray, List.getElem_cons_zero, List.getElem_cons_succ]
          refine wpF_done (by kernel_rfl) (NoPanic.normal ?_)
          have BD : Hid (Below wq.heap.size wq wc.drew) := Lib.hid BC.out.drew
          have RD : Hid (RowAt wc.drew wq.heap.size Ab cr.length) := Lib.hid RC.out
          clear hS BC RC SBC hcellc HRC H8
          go_wp2_with fail
          go_loopw [18] (fun jv wj => ∃ j : Nat, j ≤ cr.length ∧ jv = .int .i64 j ∧ RowAt wj wq.heap.size Ab cr.length ∧ Below wq.heap.size wq wj) (fun jv _ => cr.length - (intOf jv).toNat)
          case atStart => exact ⟨0, Nat.zero_le _, rfl, RD.out, BD.out⟩
          case round =>
            obtain ⟨j, hj, rfl, hrj, hbj⟩ := hrel
            have RJ := Lib.hid hrj
            have BJ := Lib.hid hbj
            clear hrj hbj RD BD
            by_cases hjl : j < cr.length
            · obtain ⟨g', cs, hA4, hgw, hg', hcs⟩ := RJ.out (by omega)
              subst hA4
              obtain ⟨v0, hc0, hf0⟩ := row_cell hg' hcs hjl
              have hj0 : (0 : Int) ≤ j := by omega
              have hjn : (j : Int) < cr.length := by omega
              clear hg' hcs cs
              go_wp2_with fail
              go_roundw
              case rel => exact ⟨j + 1, by omega, by go_num, RJ.out.set _, below_set BJ.out BJ.out.size (by omega) _⟩
              case measure => simp [intOf]; omega
            · go_wp2_with fail
              refine (HBO.out _ (SQ.out.below BJ.out)).mono ?_
              rintro e we ⟨Ae, ce, rfl, oe, be⟩
              have SE := Lib.hid (own_bytes_sl oe (fun _ => True) fun _ _ => trivial)
              have BE : Hid (Below wq.heap.size wq we) := below_then BJ.out BJ.out.size be
              have hcelle := cell_keep2 BE.out hcell
              have HRE := Lib.hid (HR.out.below BE.out)
              clear oe be RJ BJ
              go_wp2_with fail
              have hS : we.drew.cell? ⟨g, o + i, none⟩ = some (.slice Ak r.length ck) ∧ Sl we.drew (fun x => True) (.slice Ae cr.length ce) cr := ⟨hcelle, SE.out⟩
              refine wp_regionF (fun w' => w'.cell? ⟨g, o + i, none⟩ = some (.slice Ak r.length ck) ∧ Sl w' (fun x => True) (.slice Ae cr.length ce) cr) [] (by kernel_rfl) ?_
              refine wpF_take0 0 rfl (by kernel_rfl) (by kernel_rfl) (by kernel_rfl) (by kernel_rfl) no_panic (.inr hS) rfl ?_
              apply Exists.intro; refine ⟨fun w' => ?_, ?_⟩
              · go_simp; (try with_reducible rfl)
              simp only [Act.put, List.setIfInBounds_toArray, List.set_cons_zero, List.set_cons_succ, List.getElem_toArray, List.getElem_cons_zero, List.getElem_cons_succ]
              refine wpF_take 1 rfl (by kernel_rfl) (by kernel_rfl) (by kernel_rfl) (by kernel_rfl) (by kernel_rfl) no_panic hS rfl ?_
              apply Exists.intro; refine ⟨fun w' hw' => ?_, ?_⟩
              · exact exec_convert 29 9 (.tmp 143) rfl rfl (Sl.string hw'.2 29 9 5 Try.underlying29 Try.underlying5 Try.underlying9)
              simp only [Act.put, List.setIfInBounds_toArray, List.set_cons_zero, List.set_cons_succ, List.getElem_toArray, List.getElem_cons_zero, List.getElem_cons_succ]
              refine wpF_take0 2 rfl (by kernel_rfl) (by kernel_rfl) (by kernel_rfl) (by kernel_rfl) no_panic (.inr hS) rfl ?_
              apply Exists.intro; refine ⟨fun w' => ?_, ?_⟩
              · go_simp; (try with_reducible rfl)
              simp only [Act.put, List.setIfInBounds_toArray, List.set_cons_zero, List.set_cons_succ, List.getElem_toArray, List.getElem_cons_zero, List.getElem_cons_succ]
              refine wpF_take0 3 rfl (by kernel_rfl) (by kernel_rfl) (by kernel_rfl) (by kernel_rfl) no_panic (.inr hS) rfl ?_
              apply Exists.intro; refine ⟨fun w' => ?_, ?_⟩
              · go_simp; (try with_reducible rfl)
              simp only [Act.put, List.setIfInBounds_toArray, List.set_cons_zero, List.set_cons_succ, List.getElem_toArray, List.getElem_cons_zero, List.getElem_cons_succ]
              refine wpF_take0 4 rfl (by kernel_rfl) (by kernel_rfl) (by kernel_rfl) (by kernel_rfl) no_panic (.inr hS) rfl ?_
              apply Exists.intro; refine ⟨fun w' => ?_, ?_⟩
              · go_simp; (try with_reducible rfl)
              simp only [Act.put, List.setIfInBounds_toArray, List.set_cons_zero, List.set_cons_succ, List.getElem_toArray, List.getElem_cons_zero, List.getElem_cons_succ]
              refine wpF_take 5 rfl (by kernel_rfl) (by kernel_rfl) (by kernel_rfl) (by kernel_rfl) (by kernel_rfl) no_panic hS rfl ?_
              apply Exists.intro; refine ⟨fun w' hw' => ?_, ?_⟩
              · (try dsimp only at hw'); go_simp; (try with_reducible rfl)
              simp only [Act.put, List.setIfInBounds_toArray, List.set_cons_zero, List.set_cons_succ, List.getElem_toArray, List.getElem_cons_zero, List.getElem_cons_succ]
              refine wpF_do 6 (by kernel_rfl) rfl rfl (fun K hK => ?_)
              go_simp
              refine (short_any _ (fun b => b < w.heap.size) _ r (by exact HRE.out)).mono ?_
              rintro e w8 ⟨⟨v8, rfl, h8⟩, rfl⟩
              rw [← HCR.out] at h8
              have H8 := Lib.hid h8
              clear h8
              refine hK.out _ _ ?_ (fun hS6 => ?_)
              · exact hS
              clear hK K
              try simp only [Act.put, List.setIfInBounds_toArray, List.set_cons_zero, List.set_cons_succ, List.getElem_toArray, List.getElem_cons_zero, List.getElem_cons_succ]
              refine wpF_do 7 (by kernel_rfl) rfl rfl (fun K hK => ?_)
              refine wp_run (exec_convert 29 9 (.tmp 149) rfl rfl (Sl.string H8.out 29 9 5 Try.underlying29 Try.underlying5 Try.underlying9)) ?_
              refine hK.out _ _ ?_ (fun hS7 => ?_)
              · exact hS6
              clear hK K
              try simp only [Act.put, List.setIfInBounds_toArray, List.set_cons_zero, List.set_cons_succ, List.getElem_toArray, List.getElem_cons_zero, List.getElem_cons_succ]
              refine wpF_take0 8 rfl (by kernel_rfl) (by kernel_rfl) (by kernel_rfl) (by kernel_rfl) no_panic (.inr hS7) rfl ?_
              apply Exists.intro; refine ⟨fun w' => ?_, ?_⟩
              · go_simp; (try with_reducible rfl)
              simp only [Act.put, List.setIfInBounds_toArray, List.set_cons_zero, List.set_cons_succ, List.getElem_toArray, List.getElem_cons_zero, List.getElem_cons_succ]
              refine wpF_done (by kernel_rfl) (NoPanic.normal ?_)
              have BF : Hid (Below w.heap.size w we.drew) := Lib.hid (below_then BQ.out hqs BE.out).drew
              have SF : Hid (SenderAt we.drew (fun x => x ≠ sb ∧ x ≠ cb) sb 16 0 P) := Lib.hid (SQ.out.below BE.out.drew)
              have CF : Hid (SenderAt we.drew (fun x => x ≠ sb ∧ x ≠ cb) cb 16 M K) := Lib.hid (CQ.out.below BE.out.drew)
              clear hS hcelle HRE H8 SE BE
              go_wp2_with fail
              go_roundw
              case rel => exact ⟨i + 1, by omega, by go_num, SF.out, CF.out, BF.out⟩
              case measure => simp [intOf]; omega
        · go_wp2_with fail
          go_ret
          exact ⟨rfl, BQ.out⟩
end Go.Proofs.Ythfbjapbfhafbaa
