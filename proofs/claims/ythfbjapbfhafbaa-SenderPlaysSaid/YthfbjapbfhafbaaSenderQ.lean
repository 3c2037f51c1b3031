/- SenderPlays: the walk. -/
import Derived.Test.YthfbjapbfhafbaaSenderP
import Derived.Test.YthfbjapbfhafbaaStruct
set_option linter.unusedSimpArgs false
set_option linter.unusedVariables false
namespace Go.Proofs.Ythfbjapbfhafbaa
open Go.RowKit Go.Proofs Go.Trc

theorem cell_keep3 {w w' : World} (hb : Below w.heap.size w w') {p : Addr} {v : Value} (h : w.cell? p = some v) : w'.cell? p = some v := (hb.cell (World.block_lt_of_cell? w p h)).trans h

theorem sl_bytes_made2 (W : World) (ok : Nat → Prop) (e : TypeId) (fr : Nat × Nat) (xs : List UInt8) (arr : Array Value) (ha : arr.toList = xs.map fun x => Value.int .u8 (x.toNat : Int)) (hm : xs.length ≤ 9223372036854775807) (hb : ok W.heap.size) :
    Sl (W.alloc (.cells arr e fr)) ok (.slice (some ⟨W.heap.size, 0, none⟩) xs.length xs.length) xs := by
  refine ⟨_, xs.length, rfl, Nat.le_refl _, hm, fun h => by simp at h, fun _ => ⟨W.heap.size, 0, rfl, hb, ?_⟩⟩
  refine Cells.of_block (heap_alloc_new W _) arr.toList (fun j hj => by simp) (fun j hj => ?_)
  rw [ha, show Rep.sz UInt8 = 1 from rfl, Nat.mul_one, List.drop_eq_getElem_cons (by simpa using hj), List.take_succ_cons, List.take_zero, List.getElem_map]
  exact rfl

theorem bit1 (x : Int) : 0 ≤ bits .and .i64 x 1 := by
  show 0 ≤ IntKind.i64.wrap ((BitVec.ofInt 64 x &&& BitVec.ofInt 64 1).toNat : Int)
  have h : (BitVec.ofInt 64 x &&& BitVec.ofInt 64 1).toNat ≤ 1 := by rw [BitVec.toNat_and]; exact Nat.and_le_right
  rw [Go.IntWalk.i64_in _ (by omega)]
  omega

/-- An operation among the argument's. -/
theorem op_row {w : World} {ok : Nat → Prop} {A : Option Addr} {n c : Nat} {l : List (Int × Int × List UInt8)} (h : Sl w ok (.slice A n c) l) (k : Nat) (hk : k < l.length) :
    ∃ g o A1 c1, A = some ⟨g, o, none⟩ ∧ ok g ∧ w.cell? ⟨g, o + k * 3, none⟩ = some (.int .i64 l[k].1) ∧ w.cell? ⟨g, o + k * 3 + 1, none⟩ = some (.int .i64 l[k].2.1) ∧
      w.cell? ⟨g, o + k * 3 + 2, none⟩ = some (.slice A1 l[k].2.2.length c1) ∧ Sl w ok (.slice A1 l[k].2.2.length c1) l[k].2.2 ∧ -9223372036854775808 ≤ l[k].2.1 ∧ l[k].2.1 ≤ 9223372036854775807 := by
  obtain ⟨b, o, rfl, hok, hc⟩ := h.at_ (by omega)
  obtain ⟨cs, ⟨d1, d2, rfl, ⟨rfl, _⟩, ⟨d3, d4, rfl, ⟨rfl, hn⟩, ⟨v, rfl, hv⟩⟩⟩, hcc⟩ := hc k hk
  obtain ⟨A1, c1, rfl, r⟩ := id hv
  exact ⟨b, o, A1, c1, rfl, hok, hcc 0 _ rfl, hcc 1 _ rfl, hcc 2 _ rfl, hv, hn⟩

theorem sender_grown {w w' : World} {ok : Nat → Prop} {b r : Nat} {win acked : Int} {kept : List (List UInt8)} (h : SenderAt w ok b win acked kept) (hg : w.grownBy w' (some r)) (hb : b ≠ r) (hr : ¬ ok r) : SenderAt w' ok b win acked kept :=
  h.weaken (hg.block b h.lt (fun e => hb (Option.some.inj e))) fun x hx hl => ⟨hx, hg.block x hl (fun e => hr (Option.some.inj e ▸ hx))⟩

theorem ref_grown {w w' : World} {ok : Nat → Prop} {b r : Nat} {win acked : Int} {L : List (List UInt8)} (h : RefAt w ok b win acked L) (hg : w.grownBy w' (some r)) (hb : b ≠ r) (hr : ¬ ok r) : RefAt w' ok b win acked L :=
  h.weaken (hg.block b h.lt (fun e => hb (Option.some.inj e))) fun x hx hl => ⟨hx, hg.block x hl (fun e => hr (Option.some.inj e ▸ hx))⟩

theorem RefAt.cells {w : World} {ok : Nat → Prop} {b : Nat} {win acked : Int} {L : List (List UInt8)} (h : RefAt w ok b win acked L) : w.cell? ⟨b, 1, none⟩ = some (.int .i64 acked) ∧ ∃ A c, w.cell? ⟨b, 2, none⟩ = some (.slice A L.length c) := by
  obtain ⟨v, hv, hk⟩ := h
  obtain ⟨A, c, rfl, _⟩ := hk
  obtain ⟨_, c1, c2, _⟩ := cells3 hv
  exact ⟨c1, A, c, c2⟩

theorem push_drop {win : Int} {a : Nat} {L : List (List UInt8)} {xs : List UInt8} (ha : a ≤ L.length) : pushK win (L.drop a) xs = (if (L.length : Int) - a < win then L ++ [xs] else L).drop a := by
  have hd : ((L.drop a).length : Int) = (L.length : Int) - a := by simp; omega
  unfold pushK
  rw [hd]
  split
  · rw [List.drop_append_of_le_length ha]
  · rfl

/-- Where an Ack leaves both. -/
theorem ack_drop {a : Nat} {L : List (List UInt8)} (x : Int) (ha : a ≤ L.length) : ∃ a' : Nat, a' ≤ L.length ∧ ackA a (L.drop a) x = a' ∧ ackK a (L.drop a) x = L.drop a' := by
  have hd : ((L.drop a).length : Int) = (L.length : Int) - a := by simp; omega
  by_cases h : ackOk a (L.drop a) x = true
  · have h' := h
    unfold ackOk at h'
    rw [hd] at h'
    simp at h'
    refine ⟨x.toNat, by omega, ?_, ?_⟩
    · unfold ackA; rw [if_pos h]; omega
    · unfold ackK; rw [if_pos h, List.drop_drop]; congr 1; omega
  · refine ⟨a, ha, ?_, ?_⟩
    · unfold ackA; rw [if_neg h]
    · unfold ackK; rw [if_neg h]

/-- What holds at the head of each round. -/
def PlaysInv (w wr : World) (sb rb : Nat) (win : Int) (k a : Nat) (L : List (List UInt8)) : Prop :=
  a ≤ L.length ∧ L.length ≤ k ∧ SenderAt wr (fun x => x ≠ sb ∧ x ≠ rb) sb win a (L.drop a) ∧ RefAt wr (fun x => x ≠ sb ∧ x ≠ rb) rb win a L ∧ (∀ r ∈ L, r.length ≤ 60) ∧ Below w.heap.size w wr ∧ w.heap.size ≤ sb ∧ w.heap.size ≤ rb ∧ sb ≠ rb

set_option maxRecDepth 100000 in
set_option maxHeartbeats 4000000 in
theorem senderPlays_walk (w : World) (a0 : Int) (b0 : -9223372036854775808 ≤ a0 ∧ a0 ≤ 9223372036854775807) (A1 : Option Addr) (n1 c1 : Nat) (l : List (Int × Int × List UInt8)) (hl : Sl w (fun b => b < w.heap.size) (.slice A1 n1 c1) l) :
    Calls Try.prog 6 #[.int .i64 a0, .slice A1 n1 c1] w fun e w' => e = .returned (.bool true) ∧ Below w.heap.size w w' := by
  obtain ⟨hn1, hn2, hn3⟩ := hl.len_eq
  have HL := Lib.hid hl
  have HN := Lib.hid hn1
  clear hl hn1
  have kc := fun (w : World) (C : Array Value) (n c : Nat) => Lib.run_convert_bytes_const (P := Try.prog) w 29 5 C n c Try.underlying29 Try.underlying5
  go_enter Try.func6, Try.ntmps6
  go_wp2_with fail
  refine (shown_ok _).mono ?_
  rintro e w1 ⟨rfl, b1⟩
  have B1 := Lib.hid b1
  clear b1
  go_wp2_with fail
  refine (new_all a0 _ b0 (fun x => True)).mono ?_
  rintro e w2 ⟨rfl, s2, b2⟩
  have hsb : w.heap.size ≤ w1.heap.size := B1.out.size
  go_wp2_with fail
  refine (rnew a0 _ b0 (fun x => True)).mono ?_
  rintro e w3 ⟨rfl, r3, b3⟩
  have hlt12 := s2.lt
  obtain ⟨win, hwin⟩ : ∃ win, win = min (max a0 1) 64 := ⟨_, rfl⟩
  have hw1 : 1 ≤ win ∧ win ≤ 64 := by omega
  rw [← hwin] at s2 r3
  clear hwin
  have S3 : Hid (SenderAt w3 (fun x => True) w1.heap.size win 0 []) := s2.below b3
  have R3 := Lib.hid r3
  have B3 : Hid (Below w.heap.size w w3) := below_then (below_then B1.out hsb b2) (by have := b2.size; omega) b3
  obtain ⟨s0, hsbe⟩ : ∃ s0, s0 = w1.heap.size := ⟨_, rfl⟩
  obtain ⟨rb, hrbe⟩ : ∃ rb, rb = w2.heap.size := ⟨_, rfl⟩
  rw [← hsbe] at S3 hlt12 hsb ⊢
  rw [← hrbe] at R3 hlt12 ⊢
  clear s2 r3 b2 b3 B1 hsbe hrbe
  go_wp2_with fail
  go_loopw [6, 8] (fun p i wr => ∃ (k a sb : Nat) (L : List (List UInt8)), k ≤ l.length ∧ k ≤ 100 ∧ i = .int .i64 k ∧ p = .pointer (some ⟨sb, 0, none⟩) ∧ PlaysInv w wr sb rb win k a L)
    (fun _ i _ => 100 - (intOf i).toNat)
  case atStart =>
    refine ⟨0, 0, s0, [], Nat.zero_le _, by omega, rfl, rfl, Nat.le_refl _, Nat.le_refl _, ?_, ?_, by simp, B3.out, hsb, by omega, by omega⟩
    · obtain ⟨v, hv, A, c, rfl, h1, h2, h3, _⟩ := S3.out
      exact ⟨_, hv, A, c, rfl, h1, h2, h3, fun hp => absurd hp (Nat.lt_irrefl 0)⟩
    · obtain ⟨v, hv, A, c, rfl, h1, h2, h3, _⟩ := R3.out
      exact ⟨_, hv, A, c, rfl, h1, h2, h3, fun hp => absurd hp (Nat.lt_irrefl 0)⟩
  case round =>
    clear S3 R3 B3 hsb hlt12
    obtain ⟨k, a, sb, L, hkl, hk100, rfl, rfl, i1, i2, i3, i4, i5, i6, i7, i8, i9⟩ := hrel
    have HS := Lib.hid i3
    have HR := Lib.hid i4
    have H6 := Lib.hid i5
    have HB := Lib.hid i6
    have hsz := i6.size
    have hls := i3.lt
    have hlr := i4.lt
    clear i3 i4 i5 i6
    by_cases hlt : k < l.length ∧ k < 100
    · obtain ⟨hlt, hlt60⟩ := hlt
      have hkn : (k : Int) < n1 := by have := HN.out; omega
      have hkn' : k < n1 := by have := HN.out; omega
      have hk0 : (0 : Int) ≤ k := by omega
      obtain ⟨g, o, Ao, co, hA1, hgl, k0, k1, k2, hrow, hxb⟩ := op_row HL.out k hlt
      subst hA1
      have hlen60 : (cut60 l[k].2.2).length ≤ 60 := by simp [cut60]; omega
      generalize l[k].1 = kd at *
      generalize l[k].2.1 = x at *
      generalize l[k].2.2 = r at *
      have HROW := Lib.hid hrow
      have hbit := bit1 kd
      clear hrow
      have hkl2 : k + 1 ≤ l.length := hlt
      by_cases h9 : (k : Int) % 9 = 8
      · go_wp2_with fail
        refine (clone_all _ (fun x => x ≠ sb ∧ x ≠ rb) (fun x => x ≠ wr.heap.size ∧ x ≠ rb ∧ x ≠ sb) sb win a (L.drop a) HS.out (fun x hx hl => ⟨by omega, hx.2, hx.1⟩)).mono ?_
        rintro e wa ⟨rfl, sc, ba⟩
        have so : SenderAt wa (fun x => x ≠ wr.heap.size ∧ x ≠ rb ∧ x ≠ sb) sb win a (L.drop a) := (HS.out.weaken rfl (fun x hx hl => ⟨⟨by omega, hx.2, hx.1⟩, rfl⟩)).below ba
        have rc : RefAt wa (fun x => x ≠ wr.heap.size ∧ x ≠ rb ∧ x ≠ sb) rb win a L := (HR.out.weaken rfl (fun x hx hl => ⟨⟨by omega, hx.2, hx.1⟩, rfl⟩)).below ba
        have BA := Lib.hid (below_then HB.out hsz ba)
        obtain ⟨cb, hcb⟩ : ∃ cb, cb = wr.heap.size := ⟨_, rfl⟩
        rw [← hcb] at sc so rc hsz hls hlr ⊢
        have SC := Lib.hid sc
        have SO := Lib.hid so
        have RC := Lib.hid rc
        clear sc so rc ba HS HR HB hcb
        go_wp2_with fail
        refine (push_any _ (fun x => x ≠ cb ∧ x ≠ rb ∧ x ≠ sb) (fun _ => True) sb win a (L.drop a) _ [111, 116, 104, 101, 114] (SO.out.below ((Below.refl _ _).alloc (Nat.le_refl _) _)) (sl_bytes_made2 _ _ _ _ _ _ rfl (by simp) trivial) (by simp) (fun x hx => by have := SC.out.lt; have := RC.out.lt; have := SO.out.lt; simp at hx; refine ⟨by omega, by omega, by omega⟩) (by simp; omega) (by omega) (by simp)).mono ?_
        rintro e wb ⟨rfl, s5, g5⟩
        have hKl : (pushK win (L.drop a) [111, 116, 104, 101, 114]).length ≤ 100 := by unfold pushK; split <;> simp <;> omega
        generalize pushK win (L.drop a) [111, 116, 104, 101, 114] = K at *
        have SO2 := Lib.hid s5
        have SC2 := Lib.hid (sender_grown (SC.out.below ((Below.refl _ _).alloc (Nat.le_refl _) _)) g5 (by omega) (by simp))
        have RC2 := Lib.hid (ref_grown (RC.out.below ((Below.refl _ _).alloc (Nat.le_refl _) _)) g5 (by omega) (by simp))
        have BB : Hid (Below w.heap.size w wb) := below_sender (BA.out.alloc BA.out.size _) i7 (Nat.le_trans BA.out.size (by simp)) g5
        have hca := RC2.out.cells.1
        clear s5 g5 SC SO RC BA
        go_wp2_with fail
        refine (ack_any _ (fun x => x ≠ cb ∧ x ≠ rb ∧ x ≠ sb) sb win a ((a : Int) + 1) K SO2.out (by simp) hKl (by omega)).mono ?_
        rintro e wc ⟨rfl, _, g6⟩
        have SC3 : Hid (SenderAt wc (fun x => x ≠ cb ∧ x ≠ rb) cb win a (L.drop a)) := Lib.hid ((sender_grown SC2.out g6 (by omega) (by simp)).weaken rfl fun x hx _ => ⟨⟨hx.1, hx.2.1⟩, rfl⟩)
        have RC3 : Hid (RefAt wc (fun x => x ≠ cb ∧ x ≠ rb) rb win a L) := Lib.hid ((ref_grown RC2.out g6 (by omega) (by simp)).weaken rfl fun x hx _ => ⟨⟨hx.1, hx.2.1⟩, rfl⟩)
        have BC : Hid (Below w.heap.size w wc) := below_sender BB.out i7 BB.out.size g6
        clear g6 SO2 SC2 RC2 BB hca hKl
        have hcbr : cb ≠ rb := by omega
        have hcbw : w.heap.size ≤ cb := hsz
        have q0 := cell_keep3 BC.out k0
        have q1 := cell_keep3 BC.out k1
        have q2 := cell_keep3 BC.out k2
        have q2' := cell_alloc q2
        by_cases hkind : bits .and .i64 kd 1 = 0
        · go_wp2_with fail
          refine (short_any _ (fun b => b < w.heap.size) _ r ((HROW.out.below BC.out).alloc _)).mono ?_
          rintro e w4 ⟨⟨v4, rfl, h4⟩, rfl⟩
          obtain ⟨A4, c4, rfl, _⟩ := id h4
          have H4 := Lib.hid h4
          clear h4
          go_wp2_with (at_builtin; refine wpList_copy_bytes rfl (.tmp 68) (.tmp 74) 29 5 rfl Try.underlying29 bytesInfo rfl rfl H4.out (by omega) _ rfl ?_)
          intro A5 c5 w5 s5 b5 _
          have B5 : Hid (Below wc.heap.size wc w5) := below_new b5
          have S5 := Lib.hid s5
          clear s5 b5 q2'
          go_wp2_with fail
          refine (push_any _ (fun x => x ≠ cb ∧ x ≠ rb) (fun x => True) cb win a (L.drop a) _ (cut60 r) (SC3.out.below B5.out) (S5.out.weaken fun _ _ _ => trivial) (by simp) (fun x hx => by have h1 := B5.out.size; have := SC3.out.lt; have := RC3.out.lt; constructor <;> omega) (by simp; omega) (by omega) (by omega)).mono ?_
          rintro e w6 ⟨rfl, s6, g6⟩
          rw [push_drop i1] at s6
          have S6 := Lib.hid s6
          have R6 := Lib.hid (ref_grown (RC3.out.below B5.out) g6 hcbr.symm (by simp))
          have B6 : Hid (Below w.heap.size w w6) := below_sender (below_then BC.out BC.out.size B5.out) hcbw (Nat.le_trans BC.out.size B5.out.size) g6
          have q26 := cell_keep3 B6.out k2
          clear s6 g6 S5 B5 H4 SC3 RC3 BC q0 q1 q2
          go_wp2_with fail
          refine (short_any _ (fun b => b < w.heap.size) _ r (HROW.out.below B6.out)).mono ?_
          rintro e w7 ⟨⟨v7, rfl, h7⟩, rfl⟩
          obtain ⟨A7, c7, rfl, _⟩ := id h7
          have H7 := Lib.hid h7
          clear h7
          go_wp2_with fail
          refine (rpush_any _ (fun x => x ≠ cb ∧ x ≠ rb) (fun b => b < w.heap.size) rb a win L _ (cut60 r) R6.out H7.out (by simp) (fun x hx => by have := S6.out.lt; have := R6.out.lt; constructor <;> omega) (by omega) i1 (by omega)).mono ?_
          rintro e w8 ⟨rfl, r8, g8⟩
          have S8 := Lib.hid (sender_grown S6.out g8 hcbr (by simp))
          have R8 := Lib.hid r8
          have B8 : Hid (Below w.heap.size w w8) := below_sender B6.out i8 B6.out.size g8
          obtain ⟨L2, hL2⟩ : ∃ L2, L2 = if (L.length : Int) - a < win then L ++ [cut60 r] else L := ⟨_, rfl⟩
          rw [← hL2] at S8 R8
          have hL2a : a ≤ L2.length ∧ L2.length ≤ k + 1 := by rw [hL2]; split <;> (try simp) <;> omega
          have HL2 : Hid (∀ r' ∈ L2, r'.length ≤ 60) := by
            intro r' hr'
            rw [hL2] at hr'
            split at hr'
            · rcases List.mem_append.1 hr' with h | h
              · exact H6.out r' h
              · simp at h; subst h; exact hlen60
            · exact H6.out r' hr'
          clear hL2 r8 g8 S6 R6 B6 H7 q26
          obtain ⟨hL2a, hL2k⟩ := hL2a
          go_wp2_with fail
          refine (due_all _ (fun x => x ≠ cb ∧ x ≠ rb) cb win a (L2.drop a) S8.out (by simp; omega) (by omega)).mono ?_
          rintro e wd ⟨Ad, dd, rfl, sd, bd⟩
          simp only [due_len, List.length_drop] at sd ⊢
          have SD := Lib.hid sd
          have Sd := Lib.hid (S8.out.below bd)
          have Rd := Lib.hid (R8.out.below bd)
          have Bd := Lib.hid (below_then B8.out B8.out.size bd)
          clear sd bd S8 R8 B8
          go_wp2_with fail
          refine (rdue_any _ (fun x => x ≠ cb ∧ x ≠ rb) rb a win L2 Rd.out (by omega) (by omega)).mono ?_
          rintro e we ⟨Ae, de, rfl, se, be⟩
          simp only [due_len] at se ⊢
          have SE := Lib.hid se
          have SDe := Lib.hid (SD.out.below be)
          have Se := Lib.hid (Sd.out.below be)
          have Re := Lib.hid (Rd.out.below be)
          have Be := Lib.hid (below_then Bd.out Bd.out.size be)
          clear se be Sd Rd Bd SD
          go_wp2_with fail
          refine (ints_same _ _ _ _ _ _ _ _ _ _ SDe.out SE.out).mono ?_
          rintro e wf ⟨rfl, nf, rfl⟩
          have Sf : Hid (SenderAt (we.drewN nf) (fun x => x ≠ cb ∧ x ≠ rb) cb win a (L2.drop a)) := Lib.hid (Se.out.drawn nf)
          have Rf : Hid (RefAt (we.drewN nf) (fun x => x ≠ cb ∧ x ≠ rb) rb win a L2) := Re.out
          have Bf : Hid (Below w.heap.size w (we.drewN nf)) := ⟨Be.out.os, Be.out.tape, Be.out.output, Be.out.size, Be.out.block⟩
          generalize we.drewN nf = wf at *
          clear Se Re Be SE SDe
          have cN := cell_keep3 Bf.out k1
          go_wp2_with fail
          refine (body_any _ (fun x => x ≠ cb ∧ x ≠ rb) cb win a x (L2.drop a) Sf.out (by simp; omega) (by omega) (fun r' hr' => Nat.le_trans (HL2.out r' (List.mem_of_mem_drop hr')) (by omega))).mono ?_
          rintro e wg ⟨⟨Ag, dg, rfl, sg⟩, bg⟩
          have SG := Lib.hid sg
          have Sg := Lib.hid (Sf.out.below bg)
          have Rg := Lib.hid (Rf.out.below bg)
          have Bg := Lib.hid (below_then Bf.out Bf.out.size bg)
          clear sg bg Sf Rf Bf cN
          have cN := cell_keep3 Bg.out k1
          go_wp2_with fail
          refine (rbody_any _ (fun x => x ≠ cb ∧ x ≠ rb) rb a win x L2 Rg.out (by omega) (by omega) HL2.out).mono ?_
          rintro e wh ⟨⟨Ah, dh, rfl, sh⟩, bh⟩
          have SGh : Hid (Sl wh (fun _ => True) (.slice Ag (bodyL a (L2.drop a) x).length dg) (bodyL a (L2.drop a) x)) := Lib.hid ((SG.out.below bh).weaken fun _ _ _ => trivial)
          have SH : Hid (Sl wh (fun _ => True) (.slice Ah (bodyL a (L2.drop a) x).length dh) (bodyL a (L2.drop a) x)) := Lib.hid (sh.weaken fun _ _ _ => trivial)
          have Sh := Lib.hid (Sg.out.below bh)
          have Rh := Lib.hid (Rg.out.below bh)
          have Bh := Lib.hid (below_then Bg.out Bg.out.size bh)
          clear sh bh Sg Rg Bg cN SG
          generalize bodyL a (L2.drop a) x = bl at *
          generalize bodyOk a (L2.drop a) x = ob at *
          obtain ⟨_, Ar, dr, hcr⟩ := Rh.out.cells
          have hnx : (a : Int) + ((L2.drop a).length : Int) + 1 = (L2.length : Int) + 1 := by simp; omega
          have hwl : IntKind.i64.wrap ((L2.length : Int) + 1) = (L2.length : Int) + 1 := Go.IntWalk.i64_in _ (by omega)
          go_wp2_with fail
          have hS : wh.drew.cell? ⟨rb, 2, none⟩ = some (.slice Ar L2.length dr) ∧ Sl wh.drew (fun _ => True) (.slice Ag bl.length dg) bl ∧ Sl wh.drew (fun _ => True) (.slice Ah bl.length dh) bl := ⟨hcr, SGh.out, SH.out⟩
          refine wp_regionF (fun w' => w'.cell? ⟨rb, 2, none⟩ = some (.slice Ar L2.length dr) ∧ Sl w' (fun _ => True) (.slice Ag bl.length dg) bl ∧ Sl w' (fun _ => True) (.slice Ah bl.length dh) bl) [] (by kernel_rfl) ?_
          refine wpF_take0 0 rfl (by kernel_rfl) (by kernel_rfl) (by kernel_rfl) (by kernel_rfl) no_panic (.inr hS) rfl ?_
          apply Exists.intro; refine ⟨fun w' => ?_, ?_⟩
          · go_simp; (try with_reducible rfl)
          simp only [Act.put, List.setIfInBounds_toArray, List.set_cons_zero, List.set_cons_succ, List.getElem_toArray, List.getElem_cons_zero, List.getElem_cons_succ]
          refine wpF_take0 1 rfl (by kernel_rfl) (by kernel_rfl) (by kernel_rfl) (by kernel_rfl) no_panic (.inr hS) rfl ?_
          apply Exists.intro; refine ⟨fun w' => ?_, ?_⟩
          · go_simp; (try with_reducible rfl)
          simp only [Act.put, List.setIfInBounds_toArray, List.set_cons_zero, List.set_cons_succ, List.getElem_toArray, List.getElem_cons_zero, List.getElem_cons_succ]
          refine wpF_take0 2 rfl (by kernel_rfl) (by kernel_rfl) (by kernel_rfl) (by kernel_rfl) no_panic (.inr hS) rfl ?_
          apply Exists.intro; refine ⟨fun w' => ?_, ?_⟩
          · go_simp; (try with_reducible rfl)
          simp only [Act.put, List.setIfInBounds_toArray, List.set_cons_zero, List.set_cons_succ, List.getElem_toArray, List.getElem_cons_zero, List.getElem_cons_succ]
          refine wpF_take0 3 rfl (by kernel_rfl) (by kernel_rfl) (by kernel_rfl) (by kernel_rfl) no_panic (.inr hS) rfl ?_
          apply Exists.intro; refine ⟨fun w' => ?_, ?_⟩
          · go_simp; (try with_reducible rfl)
          simp only [Act.put, List.setIfInBounds_toArray, List.set_cons_zero, List.set_cons_succ, List.getElem_toArray, List.getElem_cons_zero, List.getElem_cons_succ]
          refine wpF_take0 5 rfl (by kernel_rfl) (by kernel_rfl) (by kernel_rfl) (by kernel_rfl) no_panic (.inr hS) rfl ?_
          apply Exists.intro; refine ⟨fun w' => ?_, ?_⟩
          · go_simp; (try with_reducible rfl)
          simp only [Act.put, List.setIfInBounds_toArray, List.set_cons_zero, List.set_cons_succ, List.getElem_toArray, List.getElem_cons_zero, List.getElem_cons_succ]
          refine wpF_take0 6 rfl (by kernel_rfl) (by kernel_rfl) (by kernel_rfl) (by kernel_rfl) no_panic (.inr hS) rfl ?_
          apply Exists.intro; refine ⟨fun w' => ?_, ?_⟩
          · go_simp; (try with_reducible rfl)
          simp only [Act.put, List.setIfInBounds_toArray, List.set_cons_zero, List.set_cons_succ, List.getElem_toArray, List.getElem_cons_zero, List.getElem_cons_succ]
          refine wpF_take0 7 rfl (by kernel_rfl) (by kernel_rfl) (by kernel_rfl) (by kernel_rfl) no_panic (.inr hS) rfl ?_
          apply Exists.intro; refine ⟨fun w' => ?_, ?_⟩
          · go_simp; (try with_reducible rfl)
          simp only [Act.put, List.setIfInBounds_toArray, List.set_cons_zero, List.set_cons_succ, List.getElem_toArray, List.getElem_cons_zero, List.getElem_cons_succ]
          refine wpF_take 8 rfl (by kernel_rfl) (by kernel_rfl) (by kernel_rfl) (by kernel_rfl) (by kernel_rfl) no_panic hS rfl ?_
          apply Exists.intro; refine ⟨fun w' hw' => ?_, ?_⟩
          · (try dsimp only at hw'); go_simp; (try with_reducible rfl)
          simp only [Act.put, List.setIfInBounds_toArray, List.set_cons_zero, List.set_cons_succ, List.getElem_toArray, List.getElem_cons_zero, List.getElem_cons_succ]
          refine wpF_take0 9 rfl (by kernel_rfl) (by kernel_rfl) (by kernel_rfl) (by kernel_rfl) no_panic (.inr hS) rfl ?_
          apply Exists.intro; refine ⟨fun w' => ?_, ?_⟩
          · go_simp; (try with_reducible rfl)
          simp only [Act.put, List.setIfInBounds_toArray, List.set_cons_zero, List.set_cons_succ, List.getElem_toArray, List.getElem_cons_zero, List.getElem_cons_succ]
          refine wpF_take0 10 rfl (by kernel_rfl) (by kernel_rfl) (by kernel_rfl) (by kernel_rfl) no_panic (.inr hS) rfl ?_
          apply Exists.intro; refine ⟨fun w' => ?_, ?_⟩
          · go_simp; (try with_reducible rfl)
          simp only [Act.put, List.setIfInBounds_toArray, List.set_cons_zero, List.set_cons_succ, List.getElem_toArray, List.getElem_cons_zero, List.getElem_cons_succ]
          refine wpF_do 4 (by kernel_rfl) rfl rfl (fun K hK => ?_)
          go_simp
          refine (next_all _ (fun x => x ≠ cb ∧ x ≠ rb) cb win a (L2.drop a) (by exact Sh.out) (by simp; omega) (by omega)).mono ?_
          rintro e wi ⟨rfl, nq, rfl⟩
          rw [hnx]
          refine hK.out _ _ ?_ (fun hS4 => ?_)
          · exact ⟨hcr, SGh.out, SH.out⟩
          clear hK K
          try simp only [Act.put, List.setIfInBounds_toArray, List.set_cons_zero, List.set_cons_succ, List.getElem_toArray, List.getElem_cons_zero, List.getElem_cons_succ]
          refine wpF_take0 11 rfl (by kernel_rfl) (by kernel_rfl) (by kernel_rfl) (by kernel_rfl) no_panic (.inr hS4) rfl ?_
          apply Exists.intro; refine ⟨fun w' => ?_, ?_⟩
          · go_simp; (try with_reducible rfl)
          simp only [Act.put, List.setIfInBounds_toArray, List.set_cons_zero, List.set_cons_succ, List.getElem_toArray, List.getElem_cons_zero, List.getElem_cons_succ]
          refine wpF_take0 12 rfl (by kernel_rfl) (by kernel_rfl) (by kernel_rfl) (by kernel_rfl) no_panic (.inr hS4) rfl ?_
          apply Exists.intro; refine ⟨fun w' => ?_, ?_⟩
          · go_simp; (try with_reducible rfl)
          simp only [Act.put, List.setIfInBounds_toArray, List.set_cons_zero, List.set_cons_succ, List.getElem_toArray, List.getElem_cons_zero, List.getElem_cons_succ]
          refine wpF_take0 13 rfl (by kernel_rfl) (by kernel_rfl) (by kernel_rfl) (by kernel_rfl) no_panic (.inr hS4) rfl ?_
          apply Exists.intro; refine ⟨fun w' => ?_, ?_⟩
          · go_simp; (try with_reducible rfl)
          simp only [Act.put, List.setIfInBounds_toArray, List.set_cons_zero, List.set_cons_succ, List.getElem_toArray, List.getElem_cons_zero, List.getElem_cons_succ]
          refine wpF_take0 14 rfl (by kernel_rfl) (by kernel_rfl) (by kernel_rfl) (by kernel_rfl) no_panic (.inr hS4) rfl ?_
          apply Exists.intro; refine ⟨fun w' => ?_, ?_⟩
          · go_simp; (try with_reducible rfl)
          simp only [Act.put, List.setIfInBounds_toArray, List.set_cons_zero, List.set_cons_succ, List.getElem_toArray, List.getElem_cons_zero, List.getElem_cons_succ]
          refine wpF_take 15 rfl (by kernel_rfl) (by kernel_rfl) (by kernel_rfl) (by kernel_rfl) (by kernel_rfl) no_panic hS4 rfl ?_
          apply Exists.intro; refine ⟨fun w' hw' => ?_, ?_⟩
          · exact exec_convert 29 9 (.tmp 152) rfl rfl (Sl.string hw'.2.1 29 9 5 Try.underlying29 Try.underlying5 Try.underlying9)
          simp only [Act.put, List.setIfInBounds_toArray, List.set_cons_zero, List.set_cons_succ, List.getElem_toArray, List.getElem_cons_zero, List.getElem_cons_succ]
          refine wpF_take0 16 rfl (by kernel_rfl) (by kernel_rfl) (by kernel_rfl) (by kernel_rfl) no_panic (.inr hS4) rfl ?_
          apply Exists.intro; refine ⟨fun w' => ?_, ?_⟩
          · go_simp; (try with_reducible rfl)
          simp only [Act.put, List.setIfInBounds_toArray, List.set_cons_zero, List.set_cons_succ, List.getElem_toArray, List.getElem_cons_zero, List.getElem_cons_succ]
          refine wpF_take 17 rfl (by kernel_rfl) (by kernel_rfl) (by kernel_rfl) (by kernel_rfl) (by kernel_rfl) no_panic hS4 rfl ?_
          apply Exists.intro; refine ⟨fun w' hw' => ?_, ?_⟩
          · exact exec_convert 29 9 (.tmp 154) rfl rfl (Sl.string hw'.2.2 29 9 5 Try.underlying29 Try.underlying5 Try.underlying9)
          simp only [Act.put, List.setIfInBounds_toArray, List.set_cons_zero, List.set_cons_succ, List.getElem_toArray, List.getElem_cons_zero, List.getElem_cons_succ]
          refine wpF_take0 18 rfl (by kernel_rfl) (by kernel_rfl) (by kernel_rfl) (by kernel_rfl) no_panic (.inr hS4) rfl ?_
          apply Exists.intro; refine ⟨fun w' => ?_, ?_⟩
          · go_simp; (try with_reducible rfl)
          simp only [Act.put, List.setIfInBounds_toArray, List.set_cons_zero, List.set_cons_succ, List.getElem_toArray, List.getElem_cons_zero, List.getElem_cons_succ]
          refine wpF_take0 19 rfl (by kernel_rfl) (by kernel_rfl) (by kernel_rfl) (by kernel_rfl) no_panic (.inr hS4) rfl ?_
          apply Exists.intro; refine ⟨fun w' => ?_, ?_⟩
          · go_simp; (try with_reducible rfl)
          simp only [Act.put, List.setIfInBounds_toArray, List.set_cons_zero, List.set_cons_succ, List.getElem_toArray, List.getElem_cons_zero, List.getElem_cons_succ]
          refine wpF_take0 20 rfl (by kernel_rfl) (by kernel_rfl) (by kernel_rfl) (by kernel_rfl) no_panic (.inr hS4) rfl ?_
          apply Exists.intro; refine ⟨fun w' => ?_, ?_⟩
          · go_simp; (try with_reducible rfl)
          simp only [Act.put, List.setIfInBounds_toArray, List.set_cons_zero, List.set_cons_succ, List.getElem_toArray, List.getElem_cons_zero, List.getElem_cons_succ]
          refine wpF_take0 21 rfl (by kernel_rfl) (by kernel_rfl) (by kernel_rfl) (by kernel_rfl) no_panic (.inr hS4) rfl ?_
          apply Exists.intro; refine ⟨fun w' => ?_, ?_⟩
          · go_simp; (try with_reducible rfl)
          simp only [Act.put, List.setIfInBounds_toArray, List.set_cons_zero, List.set_cons_succ, List.getElem_toArray, List.getElem_cons_zero, List.getElem_cons_succ]
          refine wpF_take0 22 rfl (by kernel_rfl) (by kernel_rfl) (by kernel_rfl) (by kernel_rfl) no_panic (.inr hS4) rfl ?_
          apply Exists.intro; refine ⟨fun w' => ?_, ?_⟩
          · go_simp; (try with_reducible rfl)
          simp only [Act.put, List.setIfInBounds_toArray, List.set_cons_zero, List.set_cons_succ, List.getElem_toArray, List.getElem_cons_zero, List.getElem_cons_succ]
          refine wpF_take0 23 rfl (by kernel_rfl) (by kernel_rfl) (by kernel_rfl) (by kernel_rfl) no_panic (.inr hS4) rfl ?_
          apply Exists.intro; refine ⟨fun w' => ?_, ?_⟩
          · go_simp; (try with_reducible rfl)
          simp only [Act.put, List.setIfInBounds_toArray, List.set_cons_zero, List.set_cons_succ, List.getElem_toArray, List.getElem_cons_zero, List.getElem_cons_succ]
          refine wpF_take0 24 rfl (by kernel_rfl) (by kernel_rfl) (by kernel_rfl) (by kernel_rfl) no_panic (.inr hS4) rfl ?_
          apply Exists.intro; refine ⟨fun w' => ?_, ?_⟩
          · go_simp; (try with_reducible rfl)
          simp only [Act.put, List.setIfInBounds_toArray, List.set_cons_zero, List.set_cons_succ, List.getElem_toArray, List.getElem_cons_zero, List.getElem_cons_succ]
          refine wpF_done (by kernel_rfl) (NoPanic.normal ?_)
          have Si : Hid (SenderAt (wh.drew.drewN nq) (fun x => x ≠ cb ∧ x ≠ rb) cb win a (L2.drop a)) := Sh.out
          have Ri : Hid (RefAt (wh.drew.drewN nq) (fun x => x ≠ cb ∧ x ≠ rb) rb win a L2) := Rh.out
          have Bi : Hid (Below w.heap.size w (wh.drewN (1 + nq))) := ⟨Bh.out.os, Bh.out.tape, Bh.out.output, Bh.out.size, Bh.out.block⟩
          clear hS hcr SGh SH Sh Rh Bh
          go_wp2_with fail
          go_roundw
          case rel => exact ⟨k + 1, a, cb, L2, by omega, by omega, by go_num, rfl, by omega, by omega, Si.out, Ri.out, HL2.out, Bi.out, hcbw, i8, by omega⟩
          case measure => simp [intOf]; omega
        · go_wp2_with fail
          have hS : wc.drew.cell? ⟨g, o + k * 3 + 1, none⟩ = some (.int .i64 x) := q1
          refine wp_regionF (fun w' => w'.cell? ⟨g, o + k * 3 + 1, none⟩ = some (.int .i64 x)) [] (by kernel_rfl) ?_
          refine wpF_take0 0 rfl (by kernel_rfl) (by kernel_rfl) (by kernel_rfl) (by kernel_rfl) no_panic (.inr hS) rfl ?_
          apply Exists.intro; refine ⟨fun w' => ?_, ?_⟩
          · go_simp; (try with_reducible rfl)
          simp only [Act.put, List.setIfInBounds_toArray, List.set_cons_zero, List.set_cons_succ, List.getElem_toArray, List.getElem_cons_zero, List.getElem_cons_succ]
          refine wpF_take0 1 rfl (by kernel_rfl) (by kernel_rfl) (by kernel_rfl) (by kernel_rfl) no_panic (.inr hS) rfl ?_
          apply Exists.intro; refine ⟨fun w' => ?_, ?_⟩
          · go_simp; (try with_reducible rfl)
          simp only [Act.put, List.setIfInBounds_toArray, List.set_cons_zero, List.set_cons_succ, List.getElem_toArray, List.getElem_cons_zero, List.getElem_cons_succ]
          refine wpF_take0 2 rfl (by kernel_rfl) (by kernel_rfl) (by kernel_rfl) (by kernel_rfl) no_panic (.inr hS) rfl ?_
          apply Exists.intro; refine ⟨fun w' => ?_, ?_⟩
          · go_simp; (try with_reducible rfl)
          simp only [Act.put, List.setIfInBounds_toArray, List.set_cons_zero, List.set_cons_succ, List.getElem_toArray, List.getElem_cons_zero, List.getElem_cons_succ]
          refine wpF_take0 3 rfl (by kernel_rfl) (by kernel_rfl) (by kernel_rfl) (by kernel_rfl) no_panic (.inr hS) rfl ?_
          apply Exists.intro; refine ⟨fun w' => ?_, ?_⟩
          · go_simp; (try with_reducible rfl)
          simp only [Act.put, List.setIfInBounds_toArray, List.set_cons_zero, List.set_cons_succ, List.getElem_toArray, List.getElem_cons_zero, List.getElem_cons_succ]
          refine wpF_take0 4 rfl (by kernel_rfl) (by kernel_rfl) (by kernel_rfl) (by kernel_rfl) no_panic (.inr hS) rfl ?_
          apply Exists.intro; refine ⟨fun w' => ?_, ?_⟩
          · go_simp; (try with_reducible rfl)
          simp only [Act.put, List.setIfInBounds_toArray, List.set_cons_zero, List.set_cons_succ, List.getElem_toArray, List.getElem_cons_zero, List.getElem_cons_succ]
          refine wpF_take 5 rfl (by kernel_rfl) (by kernel_rfl) (by kernel_rfl) (by kernel_rfl) (by kernel_rfl) no_panic hS rfl ?_
          apply Exists.intro; refine ⟨fun w' hw' => ?_, ?_⟩
          · (try dsimp only at hw'); go_simp; (try with_reducible rfl)
          simp only [Act.put, List.setIfInBounds_toArray, List.set_cons_zero, List.set_cons_succ, List.getElem_toArray, List.getElem_cons_zero, List.getElem_cons_succ]
          refine wpF_take0 7 rfl (by kernel_rfl) (by kernel_rfl) (by kernel_rfl) (by kernel_rfl) no_panic (.inr hS) rfl ?_
          apply Exists.intro; refine ⟨fun w' => ?_, ?_⟩
          · go_simp; (try with_reducible rfl)
          simp only [Act.put, List.setIfInBounds_toArray, List.set_cons_zero, List.set_cons_succ, List.getElem_toArray, List.getElem_cons_zero, List.getElem_cons_succ]
          refine wpF_take0 8 rfl (by kernel_rfl) (by kernel_rfl) (by kernel_rfl) (by kernel_rfl) no_panic (.inr hS) rfl ?_
          apply Exists.intro; refine ⟨fun w' => ?_, ?_⟩
          · go_simp; (try with_reducible rfl)
          simp only [Act.put, List.setIfInBounds_toArray, List.set_cons_zero, List.set_cons_succ, List.getElem_toArray, List.getElem_cons_zero, List.getElem_cons_succ]
          refine wpF_take0 9 rfl (by kernel_rfl) (by kernel_rfl) (by kernel_rfl) (by kernel_rfl) no_panic (.inr hS) rfl ?_
          apply Exists.intro; refine ⟨fun w' => ?_, ?_⟩
          · go_simp; (try with_reducible rfl)
          simp only [Act.put, List.setIfInBounds_toArray, List.set_cons_zero, List.set_cons_succ, List.getElem_toArray, List.getElem_cons_zero, List.getElem_cons_succ]
          refine wpF_take0 10 rfl (by kernel_rfl) (by kernel_rfl) (by kernel_rfl) (by kernel_rfl) no_panic (.inr hS) rfl ?_
          apply Exists.intro; refine ⟨fun w' => ?_, ?_⟩
          · go_simp; (try with_reducible rfl)
          simp only [Act.put, List.setIfInBounds_toArray, List.set_cons_zero, List.set_cons_succ, List.getElem_toArray, List.getElem_cons_zero, List.getElem_cons_succ]
          refine wpF_take0 11 rfl (by kernel_rfl) (by kernel_rfl) (by kernel_rfl) (by kernel_rfl) no_panic (.inr hS) rfl ?_
          apply Exists.intro; refine ⟨fun w' => ?_, ?_⟩
          · go_simp; (try with_reducible rfl)
          simp only [Act.put, List.setIfInBounds_toArray, List.set_cons_zero, List.set_cons_succ, List.getElem_toArray, List.getElem_cons_zero, List.getElem_cons_succ]
          refine wpF_take 12 rfl (by kernel_rfl) (by kernel_rfl) (by kernel_rfl) (by kernel_rfl) (by kernel_rfl) no_panic hS rfl ?_
          apply Exists.intro; refine ⟨fun w' hw' => ?_, ?_⟩
          · (try dsimp only at hw'); go_simp; (try with_reducible rfl)
          simp only [Act.put, List.setIfInBounds_toArray, List.set_cons_zero, List.set_cons_succ, List.getElem_toArray, List.getElem_cons_zero, List.getElem_cons_succ]
          refine wpF_do 6 (by kernel_rfl) rfl rfl (fun K hK => ?_)
          go_simp
          refine (ack_any _ (fun x => x ≠ cb ∧ x ≠ rb) cb win a x (L.drop a) (by exact SC3.out) (by simp) (by simp; omega) (by omega)).mono ?_
          rintro e w4 ⟨rfl, s4, g4⟩
          have G4 : Hid (wc.grownBy w4 (some cb)) := ⟨g4.os, g4.tape, g4.output, g4.size, g4.block⟩
          have S4 := Lib.hid s4
          have R4 := Lib.hid (ref_grown RC3.out G4.out hcbr.symm (by simp))
          have B4 : Hid (Below w.heap.size w w4) := below_sender BC.out hcbw BC.out.size G4.out
          clear s4 g4
          refine hK.out _ _ ?_ (fun hS6 => ?_)
          · exact cell_keep3 B4.out k1
          clear hK K
          try simp only [Act.put, List.setIfInBounds_toArray, List.set_cons_zero, List.set_cons_succ, List.getElem_toArray, List.getElem_cons_zero, List.getElem_cons_succ]
          refine wpF_do 13 (by kernel_rfl) rfl rfl (fun K hK => ?_)
          go_simp
          refine (rack_any _ (fun x => x ≠ cb ∧ x ≠ rb) rb a win x L (by exact R4.out) (by simp) (by omega) i1).mono ?_
          rintro e w5 ⟨rfl, r5, g5⟩
          have G5 : Hid (w4.grownBy w5 (some rb)) := ⟨g5.os, g5.tape, g5.output, g5.size, g5.block⟩
          have R5 := Lib.hid r5
          clear r5 g5
          have S5 := Lib.hid (sender_grown S4.out G5.out hcbr (by simp))
          have B5 : Hid (Below w.heap.size w w5) := below_sender B4.out i8 B4.out.size G5.out
          refine hK.out _ _ ?_ (fun hS13 => ?_)
          · exact cell_keep3 B5.out k1
          clear hK K
          try simp only [Act.put, List.setIfInBounds_toArray, List.set_cons_zero, List.set_cons_succ, List.getElem_toArray, List.getElem_cons_zero, List.getElem_cons_succ]
          refine wpF_take0 14 rfl (by kernel_rfl) (by kernel_rfl) (by kernel_rfl) (by kernel_rfl) no_panic (.inr hS13) rfl ?_
          apply Exists.intro; refine ⟨fun w' => ?_, ?_⟩
          · go_simp; (try with_reducible rfl)
          simp only [Act.put, List.setIfInBounds_toArray, List.set_cons_zero, List.set_cons_succ, List.getElem_toArray, List.getElem_cons_zero, List.getElem_cons_succ]
          refine wpF_done (by kernel_rfl) (NoPanic.normal ?_)
          obtain ⟨a2, ha2, ea, ek⟩ := ack_drop (L := L) x i1
          rw [ea, ek] at S5
          rw [ea] at R5
          clear hS ea ek SC3 RC3 BC q0 q1 q2 q2' S4 R4 B4 G4 G5
          have hLk : L.length ≤ k + 1 := by omega
          go_wp2_with fail
          refine (due_all _ (fun x => x ≠ cb ∧ x ≠ rb) cb win a2 (L.drop a2) S5.out (by simp; omega) (by omega)).mono ?_
          rintro e wd ⟨Ad, dd, rfl, sd, bd⟩
          simp only [due_len, List.length_drop] at sd ⊢
          have SD := Lib.hid sd
          have Sd := Lib.hid (S5.out.below bd)
          have Rd := Lib.hid (R5.out.below bd)
          have Bd := Lib.hid (below_then B5.out B5.out.size bd)
          clear sd bd S5 R5 B5
          go_wp2_with fail
          refine (rdue_any _ (fun x => x ≠ cb ∧ x ≠ rb) rb a2 win L Rd.out (by omega) (by omega)).mono ?_
          rintro e we ⟨Ae, de, rfl, se, be⟩
          simp only [due_len] at se ⊢
          have SE := Lib.hid se
          have SDe := Lib.hid (SD.out.below be)
          have Se := Lib.hid (Sd.out.below be)
          have Re := Lib.hid (Rd.out.below be)
          have Be := Lib.hid (below_then Bd.out Bd.out.size be)
          clear se be Sd Rd Bd SD
          go_wp2_with fail
          refine (ints_same _ _ _ _ _ _ _ _ _ _ SDe.out SE.out).mono ?_
          rintro e wf ⟨rfl, nf, rfl⟩
          have Sf : Hid (SenderAt (we.drewN nf) (fun x => x ≠ cb ∧ x ≠ rb) cb win a2 (L.drop a2)) := Lib.hid (Se.out.drawn nf)
          have Rf : Hid (RefAt (we.drewN nf) (fun x => x ≠ cb ∧ x ≠ rb) rb win a2 L) := Re.out
          have Bf : Hid (Below w.heap.size w (we.drewN nf)) := ⟨Be.out.os, Be.out.tape, Be.out.output, Be.out.size, Be.out.block⟩
          generalize we.drewN nf = wf at *
          clear Se Re Be SE SDe
          have cN := cell_keep3 Bf.out k1
          go_wp2_with fail
          refine (body_any _ (fun x => x ≠ cb ∧ x ≠ rb) cb win a2 x (L.drop a2) Sf.out (by simp; omega) (by omega) (fun r' hr' => Nat.le_trans (H6.out r' (List.mem_of_mem_drop hr')) (by omega))).mono ?_
          rintro e wg ⟨⟨Ag, dg, rfl, sg⟩, bg⟩
          have SG := Lib.hid sg
          have Sg := Lib.hid (Sf.out.below bg)
          have Rg := Lib.hid (Rf.out.below bg)
          have Bg := Lib.hid (below_then Bf.out Bf.out.size bg)
          clear sg bg Sf Rf Bf cN
          have cN := cell_keep3 Bg.out k1
          go_wp2_with fail
          refine (rbody_any _ (fun x => x ≠ cb ∧ x ≠ rb) rb a2 win x L Rg.out (by omega) (by omega) H6.out).mono ?_
          rintro e wh ⟨⟨Ah, dh, rfl, sh⟩, bh⟩
          have SGh : Hid (Sl wh (fun _ => True) (.slice Ag (bodyL a2 (L.drop a2) x).length dg) (bodyL a2 (L.drop a2) x)) := Lib.hid ((SG.out.below bh).weaken fun _ _ _ => trivial)
          have SH : Hid (Sl wh (fun _ => True) (.slice Ah (bodyL a2 (L.drop a2) x).length dh) (bodyL a2 (L.drop a2) x)) := Lib.hid (sh.weaken fun _ _ _ => trivial)
          have Sh := Lib.hid (Sg.out.below bh)
          have Rh := Lib.hid (Rg.out.below bh)
          have Bh := Lib.hid (below_then Bg.out Bg.out.size bh)
          clear sh bh Sg Rg Bg cN SG
          generalize bodyL a2 (L.drop a2) x = bl at *
          generalize bodyOk a2 (L.drop a2) x = ob at *
          obtain ⟨_, Ar, dr, hcr⟩ := Rh.out.cells
          have hnx : (a2 : Int) + ((L.drop a2).length : Int) + 1 = (L.length : Int) + 1 := by simp; omega
          have hwl : IntKind.i64.wrap ((L.length : Int) + 1) = (L.length : Int) + 1 := Go.IntWalk.i64_in _ (by omega)
          go_wp2_with fail
          have hS : wh.drew.cell? ⟨rb, 2, none⟩ = some (.slice Ar L.length dr) ∧ Sl wh.drew (fun _ => True) (.slice Ag bl.length dg) bl ∧ Sl wh.drew (fun _ => True) (.slice Ah bl.length dh) bl := ⟨hcr, SGh.out, SH.out⟩
          refine wp_regionF (fun w' => w'.cell? ⟨rb, 2, none⟩ = some (.slice Ar L.length dr) ∧ Sl w' (fun _ => True) (.slice Ag bl.length dg) bl ∧ Sl w' (fun _ => True) (.slice Ah bl.length dh) bl) [] (by kernel_rfl) ?_
          refine wpF_take0 0 rfl (by kernel_rfl) (by kernel_rfl) (by kernel_rfl) (by kernel_rfl) no_panic (.inr hS) rfl ?_
          apply Exists.intro; refine ⟨fun w' => ?_, ?_⟩
          · go_simp; (try with_reducible rfl)
          simp only [Act.put, List.setIfInBounds_toArray, List.set_cons_zero, List.set_cons_succ, List.getElem_toArray, List.getElem_cons_zero, List.getElem_cons_succ]
          refine wpF_take0 1 rfl (by kernel_rfl) (by kernel_rfl) (by kernel_rfl) (by kernel_rfl) no_panic (.inr hS) rfl ?_
          apply Exists.intro; refine ⟨fun w' => ?_, ?_⟩
          · go_simp; (try with_reducible rfl)
          simp only [Act.put, List.setIfInBounds_toArray, List.set_cons_zero, List.set_cons_succ, List.getElem_toArray, List.getElem_cons_zero, List.getElem_cons_succ]
          refine wpF_take0 2 rfl (by kernel_rfl) (by kernel_rfl) (by kernel_rfl) (by kernel_rfl) no_panic (.inr hS) rfl ?_
          apply Exists.intro; refine ⟨fun w' => ?_, ?_⟩
          · go_simp; (try with_reducible rfl)
          simp only [Act.put, List.setIfInBounds_toArray, List.set_cons_zero, List.set_cons_succ, List.getElem_toArray, List.getElem_cons_zero, List.getElem_cons_succ]
          refine wpF_take0 3 rfl (by kernel_rfl) (by kernel_rfl) (by kernel_rfl) (by kernel_rfl) no_panic (.inr hS) rfl ?_
          apply Exists.intro; refine ⟨fun w' => ?_, ?_⟩
          · go_simp; (try with_reducible rfl)
          simp only [Act.put, List.setIfInBounds_toArray, List.set_cons_zero, List.set_cons_succ, List.getElem_toArray, List.getElem_cons_zero, List.getElem_cons_succ]
          refine wpF_take0 5 rfl (by kernel_rfl) (by kernel_rfl) (by kernel_rfl) (by kernel_rfl) no_panic (.inr hS) rfl ?_
          apply Exists.intro; refine ⟨fun w' => ?_, ?_⟩
          · go_simp; (try with_reducible rfl)
          simp only [Act.put, List.setIfInBounds_toArray, List.set_cons_zero, List.set_cons_succ, List.getElem_toArray, List.getElem_cons_zero, List.getElem_cons_succ]
          refine wpF_take0 6 rfl (by kernel_rfl) (by kernel_rfl) (by kernel_rfl) (by kernel_rfl) no_panic (.inr hS) rfl ?_
          apply Exists.intro; refine ⟨fun w' => ?_, ?_⟩
          · go_simp; (try with_reducible rfl)
          simp only [Act.put, List.setIfInBounds_toArray, List.set_cons_zero, List.set_cons_succ, List.getElem_toArray, List.getElem_cons_zero, List.getElem_cons_succ]
          refine wpF_take0 7 rfl (by kernel_rfl) (by kernel_rfl) (by kernel_rfl) (by kernel_rfl) no_panic (.inr hS) rfl ?_
          apply Exists.intro; refine ⟨fun w' => ?_, ?_⟩
          · go_simp; (try with_reducible rfl)
          simp only [Act.put, List.setIfInBounds_toArray, List.set_cons_zero, List.set_cons_succ, List.getElem_toArray, List.getElem_cons_zero, List.getElem_cons_succ]
          refine wpF_take 8 rfl (by kernel_rfl) (by kernel_rfl) (by kernel_rfl) (by kernel_rfl) (by kernel_rfl) no_panic hS rfl ?_
          apply Exists.intro; refine ⟨fun w' hw' => ?_, ?_⟩
          · (try dsimp only at hw'); go_simp; (try with_reducible rfl)
          simp only [Act.put, List.setIfInBounds_toArray, List.set_cons_zero, List.set_cons_succ, List.getElem_toArray, List.getElem_cons_zero, List.getElem_cons_succ]
          refine wpF_take0 9 rfl (by kernel_rfl) (by kernel_rfl) (by kernel_rfl) (by kernel_rfl) no_panic (.inr hS) rfl ?_
          apply Exists.intro; refine ⟨fun w' => ?_, ?_⟩
          · go_simp; (try with_reducible rfl)
          simp only [Act.put, List.setIfInBounds_toArray, List.set_cons_zero, List.set_cons_succ, List.getElem_toArray, List.getElem_cons_zero, List.getElem_cons_succ]
          refine wpF_take0 10 rfl (by kernel_rfl) (by kernel_rfl) (by kernel_rfl) (by kernel_rfl) no_panic (.inr hS) rfl ?_
          apply Exists.intro; refine ⟨fun w' => ?_, ?_⟩
          · go_simp; (try with_reducible rfl)
          simp only [Act.put, List.setIfInBounds_toArray, List.set_cons_zero, List.set_cons_succ, List.getElem_toArray, List.getElem_cons_zero, List.getElem_cons_succ]
          refine wpF_do 4 (by kernel_rfl) rfl rfl (fun K hK => ?_)
          go_simp
          refine (next_all _ (fun x => x ≠ cb ∧ x ≠ rb) cb win a2 (L.drop a2) (by exact Sh.out) (by simp; omega) (by omega)).mono ?_
          rintro e wi ⟨rfl, nq, rfl⟩
          rw [hnx]
          refine hK.out _ _ ?_ (fun hS4 => ?_)
          · exact ⟨hcr, SGh.out, SH.out⟩
          clear hK K
          try simp only [Act.put, List.setIfInBounds_toArray, List.set_cons_zero, List.set_cons_succ, List.getElem_toArray, List.getElem_cons_zero, List.getElem_cons_succ]
          refine wpF_take0 11 rfl (by kernel_rfl) (by kernel_rfl) (by kernel_rfl) (by kernel_rfl) no_panic (.inr hS4) rfl ?_
          apply Exists.intro; refine ⟨fun w' => ?_, ?_⟩
          · go_simp; (try with_reducible rfl)
          simp only [Act.put, List.setIfInBounds_toArray, List.set_cons_zero, List.set_cons_succ, List.getElem_toArray, List.getElem_cons_zero, List.getElem_cons_succ]
          refine wpF_take0 12 rfl (by kernel_rfl) (by kernel_rfl) (by kernel_rfl) (by kernel_rfl) no_panic (.inr hS4) rfl ?_
          apply Exists.intro; refine ⟨fun w' => ?_, ?_⟩
          · go_simp; (try with_reducible rfl)
          simp only [Act.put, List.setIfInBounds_toArray, List.set_cons_zero, List.set_cons_succ, List.getElem_toArray, List.getElem_cons_zero, List.getElem_cons_succ]
          refine wpF_take0 13 rfl (by kernel_rfl) (by kernel_rfl) (by kernel_rfl) (by kernel_rfl) no_panic (.inr hS4) rfl ?_
          apply Exists.intro; refine ⟨fun w' => ?_, ?_⟩
          · go_simp; (try with_reducible rfl)
          simp only [Act.put, List.setIfInBounds_toArray, List.set_cons_zero, List.set_cons_succ, List.getElem_toArray, List.getElem_cons_zero, List.getElem_cons_succ]
          refine wpF_take0 14 rfl (by kernel_rfl) (by kernel_rfl) (by kernel_rfl) (by kernel_rfl) no_panic (.inr hS4) rfl ?_
          apply Exists.intro; refine ⟨fun w' => ?_, ?_⟩
          · go_simp; (try with_reducible rfl)
          simp only [Act.put, List.setIfInBounds_toArray, List.set_cons_zero, List.set_cons_succ, List.getElem_toArray, List.getElem_cons_zero, List.getElem_cons_succ]
          refine wpF_take 15 rfl (by kernel_rfl) (by kernel_rfl) (by kernel_rfl) (by kernel_rfl) (by kernel_rfl) no_panic hS4 rfl ?_
          apply Exists.intro; refine ⟨fun w' hw' => ?_, ?_⟩
          · exact exec_convert 29 9 (.tmp 152) rfl rfl (Sl.string hw'.2.1 29 9 5 Try.underlying29 Try.underlying5 Try.underlying9)
          simp only [Act.put, List.setIfInBounds_toArray, List.set_cons_zero, List.set_cons_succ, List.getElem_toArray, List.getElem_cons_zero, List.getElem_cons_succ]
          refine wpF_take0 16 rfl (by kernel_rfl) (by kernel_rfl) (by kernel_rfl) (by kernel_rfl) no_panic (.inr hS4) rfl ?_
          apply Exists.intro; refine ⟨fun w' => ?_, ?_⟩
          · go_simp; (try with_reducible rfl)
          simp only [Act.put, List.setIfInBounds_toArray, List.set_cons_zero, List.set_cons_succ, List.getElem_toArray, List.getElem_cons_zero, List.getElem_cons_succ]
          refine wpF_take 17 rfl (by kernel_rfl) (by kernel_rfl) (by kernel_rfl) (by kernel_rfl) (by kernel_rfl) no_panic hS4 rfl ?_
          apply Exists.intro; refine ⟨fun w' hw' => ?_, ?_⟩
          · exact exec_convert 29 9 (.tmp 154) rfl rfl (Sl.string hw'.2.2 29 9 5 Try.underlying29 Try.underlying5 Try.underlying9)
          simp only [Act.put, List.setIfInBounds_toArray, List.set_cons_zero, List.set_cons_succ, List.getElem_toArray, List.getElem_cons_zero, List.getElem_cons_succ]
          refine wpF_take0 18 rfl (by kernel_rfl) (by kernel_rfl) (by kernel_rfl) (by kernel_rfl) no_panic (.inr hS4) rfl ?_
          apply Exists.intro; refine ⟨fun w' => ?_, ?_⟩
          · go_simp; (try with_reducible rfl)
          simp only [Act.put, List.setIfInBounds_toArray, List.set_cons_zero, List.set_cons_succ, List.getElem_toArray, List.getElem_cons_zero, List.getElem_cons_succ]
          refine wpF_take0 19 rfl (by kernel_rfl) (by kernel_rfl) (by kernel_rfl) (by kernel_rfl) no_panic (.inr hS4) rfl ?_
          apply Exists.intro; refine ⟨fun w' => ?_, ?_⟩
          · go_simp; (try with_reducible rfl)
          simp only [Act.put, List.setIfInBounds_toArray, List.set_cons_zero, List.set_cons_succ, List.getElem_toArray, List.getElem_cons_zero, List.getElem_cons_succ]
          refine wpF_take0 20 rfl (by kernel_rfl) (by kernel_rfl) (by kernel_rfl) (by kernel_rfl) no_panic (.inr hS4) rfl ?_
          apply Exists.intro; refine ⟨fun w' => ?_, ?_⟩
          · go_simp; (try with_reducible rfl)
          simp only [Act.put, List.setIfInBounds_toArray, List.set_cons_zero, List.set_cons_succ, List.getElem_toArray, List.getElem_cons_zero, List.getElem_cons_succ]
          refine wpF_take0 21 rfl (by kernel_rfl) (by kernel_rfl) (by kernel_rfl) (by kernel_rfl) no_panic (.inr hS4) rfl ?_
          apply Exists.intro; refine ⟨fun w' => ?_, ?_⟩
          · go_simp; (try with_reducible rfl)
          simp only [Act.put, List.setIfInBounds_toArray, List.set_cons_zero, List.set_cons_succ, List.getElem_toArray, List.getElem_cons_zero, List.getElem_cons_succ]
          refine wpF_take0 22 rfl (by kernel_rfl) (by kernel_rfl) (by kernel_rfl) (by kernel_rfl) no_panic (.inr hS4) rfl ?_
          apply Exists.intro; refine ⟨fun w' => ?_, ?_⟩
          · go_simp; (try with_reducible rfl)
          simp only [Act.put, List.setIfInBounds_toArray, List.set_cons_zero, List.set_cons_succ, List.getElem_toArray, List.getElem_cons_zero, List.getElem_cons_succ]
          refine wpF_take0 23 rfl (by kernel_rfl) (by kernel_rfl) (by kernel_rfl) (by kernel_rfl) no_panic (.inr hS4) rfl ?_
          apply Exists.intro; refine ⟨fun w' => ?_, ?_⟩
          · go_simp; (try with_reducible rfl)
          simp only [Act.put, List.setIfInBounds_toArray, List.set_cons_zero, List.set_cons_succ, List.getElem_toArray, List.getElem_cons_zero, List.getElem_cons_succ]
          refine wpF_take0 24 rfl (by kernel_rfl) (by kernel_rfl) (by kernel_rfl) (by kernel_rfl) no_panic (.inr hS4) rfl ?_
          apply Exists.intro; refine ⟨fun w' => ?_, ?_⟩
          · go_simp; (try with_reducible rfl)
          simp only [Act.put, List.setIfInBounds_toArray, List.set_cons_zero, List.set_cons_succ, List.getElem_toArray, List.getElem_cons_zero, List.getElem_cons_succ]
          refine wpF_done (by kernel_rfl) (NoPanic.normal ?_)
          have Si : Hid (SenderAt (wh.drew.drewN nq) (fun x => x ≠ cb ∧ x ≠ rb) cb win a2 (L.drop a2)) := Sh.out
          have Ri : Hid (RefAt (wh.drew.drewN nq) (fun x => x ≠ cb ∧ x ≠ rb) rb win a2 L) := Rh.out
          have Bi : Hid (Below w.heap.size w (wh.drewN (1 + nq))) := ⟨Bh.out.os, Bh.out.tape, Bh.out.output, Bh.out.size, Bh.out.block⟩
          clear hS hcr SGh SH Sh Rh Bh
          go_wp2_with fail
          go_roundw
          case rel => exact ⟨k + 1, a2, cb, L, by omega, by omega, by go_num, rfl, by omega, by omega, Si.out, Ri.out, H6.out, Bi.out, hcbw, i8, by omega⟩
          case measure => simp [intOf]; omega
      · 
        have q0 := cell_keep3 HB.out k0
        have q1 := cell_keep3 HB.out k1
        have q2 := cell_keep3 HB.out k2
        have q2' := cell_alloc q2
        by_cases hkind : bits .and .i64 kd 1 = 0
        · go_wp2_with fail
          refine (short_any _ (fun b => b < w.heap.size) _ r ((HROW.out.below HB.out).alloc _)).mono ?_
          rintro e w4 ⟨⟨v4, rfl, h4⟩, rfl⟩
          obtain ⟨A4, c4, rfl, _⟩ := id h4
          have H4 := Lib.hid h4
          clear h4
          go_wp2_with (at_builtin; refine wpList_copy_bytes rfl (.tmp 68) (.tmp 74) 29 5 rfl Try.underlying29 bytesInfo rfl rfl H4.out (by omega) _ rfl ?_)
          intro A5 c5 w5 s5 b5 _
          have B5 : Hid (Below wr.heap.size wr w5) := below_new b5
          have S5 := Lib.hid s5
          clear s5 b5 q2'
          go_wp2_with fail
          refine (push_any _ (fun x => x ≠ sb ∧ x ≠ rb) (fun x => True) sb win a (L.drop a) _ (cut60 r) (HS.out.below B5.out) (S5.out.weaken fun _ _ _ => trivial) (by simp) (fun x hx => by have h1 := B5.out.size; have := HS.out.lt; have := HR.out.lt; constructor <;> omega) (by simp; omega) (by omega) (by omega)).mono ?_
          rintro e w6 ⟨rfl, s6, g6⟩
          rw [push_drop i1] at s6
          have S6 := Lib.hid s6
          have R6 := Lib.hid (ref_grown (HR.out.below B5.out) g6 i9.symm (by simp))
          have B6 : Hid (Below w.heap.size w w6) := below_sender (below_then HB.out HB.out.size B5.out) i7 (Nat.le_trans HB.out.size B5.out.size) g6
          have q26 := cell_keep3 B6.out k2
          clear s6 g6 S5 B5 H4 HS HR HB q0 q1 q2
          go_wp2_with fail
          refine (short_any _ (fun b => b < w.heap.size) _ r (HROW.out.below B6.out)).mono ?_
          rintro e w7 ⟨⟨v7, rfl, h7⟩, rfl⟩
          obtain ⟨A7, c7, rfl, _⟩ := id h7
          have H7 := Lib.hid h7
          clear h7
          go_wp2_with fail
          refine (rpush_any _ (fun x => x ≠ sb ∧ x ≠ rb) (fun b => b < w.heap.size) rb a win L _ (cut60 r) R6.out H7.out (by simp) (fun x hx => by have := S6.out.lt; have := R6.out.lt; constructor <;> omega) (by omega) i1 (by omega)).mono ?_
          rintro e w8 ⟨rfl, r8, g8⟩
          have S8 := Lib.hid (sender_grown S6.out g8 i9 (by simp))
          have R8 := Lib.hid r8
          have B8 : Hid (Below w.heap.size w w8) := below_sender B6.out i8 B6.out.size g8
          obtain ⟨L2, hL2⟩ : ∃ L2, L2 = if (L.length : Int) - a < win then L ++ [cut60 r] else L := ⟨_, rfl⟩
          rw [← hL2] at S8 R8
          have hL2a : a ≤ L2.length ∧ L2.length ≤ k + 1 := by rw [hL2]; split <;> (try simp) <;> omega
          have HL2 : Hid (∀ r' ∈ L2, r'.length ≤ 60) := by
            intro r' hr'
            rw [hL2] at hr'
            split at hr'
            · rcases List.mem_append.1 hr' with h | h
              · exact H6.out r' h
              · simp at h; subst h; exact hlen60
            · exact H6.out r' hr'
          clear hL2 r8 g8 S6 R6 B6 H7 q26
          obtain ⟨hL2a, hL2k⟩ := hL2a
          go_wp2_with fail
          refine (due_all _ (fun x => x ≠ sb ∧ x ≠ rb) sb win a (L2.drop a) S8.out (by simp; omega) (by omega)).mono ?_
          rintro e wd ⟨Ad, dd, rfl, sd, bd⟩
          simp only [due_len, List.length_drop] at sd ⊢
          have SD := Lib.hid sd
          have Sd := Lib.hid (S8.out.below bd)
          have Rd := Lib.hid (R8.out.below bd)
          have Bd := Lib.hid (below_then B8.out B8.out.size bd)
          clear sd bd S8 R8 B8
          go_wp2_with fail
          refine (rdue_any _ (fun x => x ≠ sb ∧ x ≠ rb) rb a win L2 Rd.out (by omega) (by omega)).mono ?_
          rintro e we ⟨Ae, de, rfl, se, be⟩
          simp only [due_len] at se ⊢
          have SE := Lib.hid se
          have SDe := Lib.hid (SD.out.below be)
          have Se := Lib.hid (Sd.out.below be)
          have Re := Lib.hid (Rd.out.below be)
          have Be := Lib.hid (below_then Bd.out Bd.out.size be)
          clear se be Sd Rd Bd SD
          go_wp2_with fail
          refine (ints_same _ _ _ _ _ _ _ _ _ _ SDe.out SE.out).mono ?_
          rintro e wf ⟨rfl, nf, rfl⟩
          have Sf : Hid (SenderAt (we.drewN nf) (fun x => x ≠ sb ∧ x ≠ rb) sb win a (L2.drop a)) := Lib.hid (Se.out.drawn nf)
          have Rf : Hid (RefAt (we.drewN nf) (fun x => x ≠ sb ∧ x ≠ rb) rb win a L2) := Re.out
          have Bf : Hid (Below w.heap.size w (we.drewN nf)) := ⟨Be.out.os, Be.out.tape, Be.out.output, Be.out.size, Be.out.block⟩
          generalize we.drewN nf = wf at *
          clear Se Re Be SE SDe
          have cN := cell_keep3 Bf.out k1
          go_wp2_with fail
          refine (body_any _ (fun x => x ≠ sb ∧ x ≠ rb) sb win a x (L2.drop a) Sf.out (by simp; omega) (by omega) (fun r' hr' => Nat.le_trans (HL2.out r' (List.mem_of_mem_drop hr')) (by omega))).mono ?_
          rintro e wg ⟨⟨Ag, dg, rfl, sg⟩, bg⟩
          have SG := Lib.hid sg
          have Sg := Lib.hid (Sf.out.below bg)
          have Rg := Lib.hid (Rf.out.below bg)
          have Bg := Lib.hid (below_then Bf.out Bf.out.size bg)
          clear sg bg Sf Rf Bf cN
          have cN := cell_keep3 Bg.out k1
          go_wp2_with fail
          refine (rbody_any _ (fun x => x ≠ sb ∧ x ≠ rb) rb a win x L2 Rg.out (by omega) (by omega) HL2.out).mono ?_
          rintro e wh ⟨⟨Ah, dh, rfl, sh⟩, bh⟩
          have SGh : Hid (Sl wh (fun _ => True) (.slice Ag (bodyL a (L2.drop a) x).length dg) (bodyL a (L2.drop a) x)) := Lib.hid ((SG.out.below bh).weaken fun _ _ _ => trivial)
          have SH : Hid (Sl wh (fun _ => True) (.slice Ah (bodyL a (L2.drop a) x).length dh) (bodyL a (L2.drop a) x)) := Lib.hid (sh.weaken fun _ _ _ => trivial)
          have Sh := Lib.hid (Sg.out.below bh)
          have Rh := Lib.hid (Rg.out.below bh)
          have Bh := Lib.hid (below_then Bg.out Bg.out.size bh)
          clear sh bh Sg Rg Bg cN SG
          generalize bodyL a (L2.drop a) x = bl at *
          generalize bodyOk a (L2.drop a) x = ob at *
          obtain ⟨_, Ar, dr, hcr⟩ := Rh.out.cells
          have hnx : (a : Int) + ((L2.drop a).length : Int) + 1 = (L2.length : Int) + 1 := by simp; omega
          have hwl : IntKind.i64.wrap ((L2.length : Int) + 1) = (L2.length : Int) + 1 := Go.IntWalk.i64_in _ (by omega)
          go_wp2_with fail
          have hS : wh.drew.cell? ⟨rb, 2, none⟩ = some (.slice Ar L2.length dr) ∧ Sl wh.drew (fun _ => True) (.slice Ag bl.length dg) bl ∧ Sl wh.drew (fun _ => True) (.slice Ah bl.length dh) bl := ⟨hcr, SGh.out, SH.out⟩
          refine wp_regionF (fun w' => w'.cell? ⟨rb, 2, none⟩ = some (.slice Ar L2.length dr) ∧ Sl w' (fun _ => True) (.slice Ag bl.length dg) bl ∧ Sl w' (fun _ => True) (.slice Ah bl.length dh) bl) [] (by kernel_rfl) ?_
          refine wpF_take0 0 rfl (by kernel_rfl) (by kernel_rfl) (by kernel_rfl) (by kernel_rfl) no_panic (.inr hS) rfl ?_
          apply Exists.intro; refine ⟨fun w' => ?_, ?_⟩
          · go_simp; (try with_reducible rfl)
          simp only [Act.put, List.setIfInBounds_toArray, List.set_cons_zero, List.set_cons_succ, List.getElem_toArray, List.getElem_cons_zero, List.getElem_cons_succ]
          refine wpF_take0 1 rfl (by kernel_rfl) (by kernel_rfl) (by kernel_rfl) (by kernel_rfl) no_panic (.inr hS) rfl ?_
          apply Exists.intro; refine ⟨fun w' => ?_, ?_⟩
          · go_simp; (try with_reducible rfl)
          simp only [Act.put, List.setIfInBounds_toArray, List.set_cons_zero, List.set_cons_succ, List.getElem_toArray, List.getElem_cons_zero, List.getElem_cons_succ]
          refine wpF_take0 2 rfl (by kernel_rfl) (by kernel_rfl) (by kernel_rfl) (by kernel_rfl) no_panic (.inr hS) rfl ?_
          apply Exists.intro; refine ⟨fun w' => ?_, ?_⟩
          · go_simp; (try with_reducible rfl)
          simp only [Act.put, List.setIfInBounds_toArray, List.set_cons_zero, List.set_cons_succ, List.getElem_toArray, List.getElem_cons_zero, List.getElem_cons_succ]
          refine wpF_take0 3 rfl (by kernel_rfl) (by kernel_rfl) (by kernel_rfl) (by kernel_rfl) no_panic (.inr hS) rfl ?_
          apply Exists.intro; refine ⟨fun w' => ?_, ?_⟩
          · go_simp; (try with_reducible rfl)
          simp only [Act.put, List.setIfInBounds_toArray, List.set_cons_zero, List.set_cons_succ, List.getElem_toArray, List.getElem_cons_zero, List.getElem_cons_succ]
          refine wpF_take0 5 rfl (by kernel_rfl) (by kernel_rfl) (by kernel_rfl) (by kernel_rfl) no_panic (.inr hS) rfl ?_
          apply Exists.intro; refine ⟨fun w' => ?_, ?_⟩
          · go_simp; (try with_reducible rfl)
          simp only [Act.put, List.setIfInBounds_toArray, List.set_cons_zero, List.set_cons_succ, List.getElem_toArray, List.getElem_cons_zero, List.getElem_cons_succ]
          refine wpF_take0 6 rfl (by kernel_rfl) (by kernel_rfl) (by kernel_rfl) (by kernel_rfl) no_panic (.inr hS) rfl ?_
          apply Exists.intro; refine ⟨fun w' => ?_, ?_⟩
          · go_simp; (try with_reducible rfl)
          simp only [Act.put, List.setIfInBounds_toArray, List.set_cons_zero, List.set_cons_succ, List.getElem_toArray, List.getElem_cons_zero, List.getElem_cons_succ]
          refine wpF_take0 7 rfl (by kernel_rfl) (by kernel_rfl) (by kernel_rfl) (by kernel_rfl) no_panic (.inr hS) rfl ?_
          apply Exists.intro; refine ⟨fun w' => ?_, ?_⟩
          · go_simp; (try with_reducible rfl)
          simp only [Act.put, List.setIfInBounds_toArray, List.set_cons_zero, List.set_cons_succ, List.getElem_toArray, List.getElem_cons_zero, List.getElem_cons_succ]
          refine wpF_take 8 rfl (by kernel_rfl) (by kernel_rfl) (by kernel_rfl) (by kernel_rfl) (by kernel_rfl) no_panic hS rfl ?_
          apply Exists.intro; refine ⟨fun w' hw' => ?_, ?_⟩
          · (try dsimp only at hw'); go_simp; (try with_reducible rfl)
          simp only [Act.put, List.setIfInBounds_toArray, List.set_cons_zero, List.set_cons_succ, List.getElem_toArray, List.getElem_cons_zero, List.getElem_cons_succ]
          refine wpF_take0 9 rfl (by kernel_rfl) (by kernel_rfl) (by kernel_rfl) (by kernel_rfl) no_panic (.inr hS) rfl ?_
          apply Exists.intro; refine ⟨fun w' => ?_, ?_⟩
          · go_simp; (try with_reducible rfl)
          simp only [Act.put, List.setIfInBounds_toArray, List.set_cons_zero, List.set_cons_succ, List.getElem_toArray, List.getElem_cons_zero, List.getElem_cons_succ]
          refine wpF_take0 10 rfl (by kernel_rfl) (by kernel_rfl) (by kernel_rfl) (by kernel_rfl) no_panic (.inr hS) rfl ?_
          apply Exists.intro; refine ⟨fun w' => ?_, ?_⟩
          · go_simp; (try with_reducible rfl)
          simp only [Act.put, List.setIfInBounds_toArray, List.set_cons_zero, List.set_cons_succ, List.getElem_toArray, List.getElem_cons_zero, List.getElem_cons_succ]
          refine wpF_do 4 (by kernel_rfl) rfl rfl (fun K hK => ?_)
          go_simp
          refine (next_all _ (fun x => x ≠ sb ∧ x ≠ rb) sb win a (L2.drop a) (by exact Sh.out) (by simp; omega) (by omega)).mono ?_
          rintro e wi ⟨rfl, nq, rfl⟩
          rw [hnx]
          refine hK.out _ _ ?_ (fun hS4 => ?_)
          · exact ⟨hcr, SGh.out, SH.out⟩
          clear hK K
          try simp only [Act.put, List.setIfInBounds_toArray, List.set_cons_zero, List.set_cons_succ, List.getElem_toArray, List.getElem_cons_zero, List.getElem_cons_succ]
          refine wpF_take0 11 rfl (by kernel_rfl) (by kernel_rfl) (by kernel_rfl) (by kernel_rfl) no_panic (.inr hS4) rfl ?_
          apply Exists.intro; refine ⟨fun w' => ?_, ?_⟩
          · go_simp; (try with_reducible rfl)
          simp only [Act.put, List.setIfInBounds_toArray, List.set_cons_zero, List.set_cons_succ, List.getElem_toArray, List.getElem_cons_zero, List.getElem_cons_succ]
          refine wpF_take0 12 rfl (by kernel_rfl) (by kernel_rfl) (by kernel_rfl) (by kernel_rfl) no_panic (.inr hS4) rfl ?_
          apply Exists.intro; refine ⟨fun w' => ?_, ?_⟩
          · go_simp; (try with_reducible rfl)
          simp only [Act.put, List.setIfInBounds_toArray, List.set_cons_zero, List.set_cons_succ, List.getElem_toArray, List.getElem_cons_zero, List.getElem_cons_succ]
          refine wpF_take0 13 rfl (by kernel_rfl) (by kernel_rfl) (by kernel_rfl) (by kernel_rfl) no_panic (.inr hS4) rfl ?_
          apply Exists.intro; refine ⟨fun w' => ?_, ?_⟩
          · go_simp; (try with_reducible rfl)
          simp only [Act.put, List.setIfInBounds_toArray, List.set_cons_zero, List.set_cons_succ, List.getElem_toArray, List.getElem_cons_zero, List.getElem_cons_succ]
          refine wpF_take0 14 rfl (by kernel_rfl) (by kernel_rfl) (by kernel_rfl) (by kernel_rfl) no_panic (.inr hS4) rfl ?_
          apply Exists.intro; refine ⟨fun w' => ?_, ?_⟩
          · go_simp; (try with_reducible rfl)
          simp only [Act.put, List.setIfInBounds_toArray, List.set_cons_zero, List.set_cons_succ, List.getElem_toArray, List.getElem_cons_zero, List.getElem_cons_succ]
          refine wpF_take 15 rfl (by kernel_rfl) (by kernel_rfl) (by kernel_rfl) (by kernel_rfl) (by kernel_rfl) no_panic hS4 rfl ?_
          apply Exists.intro; refine ⟨fun w' hw' => ?_, ?_⟩
          · exact exec_convert 29 9 (.tmp 152) rfl rfl (Sl.string hw'.2.1 29 9 5 Try.underlying29 Try.underlying5 Try.underlying9)
          simp only [Act.put, List.setIfInBounds_toArray, List.set_cons_zero, List.set_cons_succ, List.getElem_toArray, List.getElem_cons_zero, List.getElem_cons_succ]
          refine wpF_take0 16 rfl (by kernel_rfl) (by kernel_rfl) (by kernel_rfl) (by kernel_rfl) no_panic (.inr hS4) rfl ?_
          apply Exists.intro; refine ⟨fun w' => ?_, ?_⟩
          · go_simp; (try with_reducible rfl)
          simp only [Act.put, List.setIfInBounds_toArray, List.set_cons_zero, List.set_cons_succ, List.getElem_toArray, List.getElem_cons_zero, List.getElem_cons_succ]
          refine wpF_take 17 rfl (by kernel_rfl) (by kernel_rfl) (by kernel_rfl) (by kernel_rfl) (by kernel_rfl) no_panic hS4 rfl ?_
          apply Exists.intro; refine ⟨fun w' hw' => ?_, ?_⟩
          · exact exec_convert 29 9 (.tmp 154) rfl rfl (Sl.string hw'.2.2 29 9 5 Try.underlying29 Try.underlying5 Try.underlying9)
          simp only [Act.put, List.setIfInBounds_toArray, List.set_cons_zero, List.set_cons_succ, List.getElem_toArray, List.getElem_cons_zero, List.getElem_cons_succ]
          refine wpF_take0 18 rfl (by kernel_rfl) (by kernel_rfl) (by kernel_rfl) (by kernel_rfl) no_panic (.inr hS4) rfl ?_
          apply Exists.intro; refine ⟨fun w' => ?_, ?_⟩
          · go_simp; (try with_reducible rfl)
          simp only [Act.put, List.setIfInBounds_toArray, List.set_cons_zero, List.set_cons_succ, List.getElem_toArray, List.getElem_cons_zero, List.getElem_cons_succ]
          refine wpF_take0 19 rfl (by kernel_rfl) (by kernel_rfl) (by kernel_rfl) (by kernel_rfl) no_panic (.inr hS4) rfl ?_
          apply Exists.intro; refine ⟨fun w' => ?_, ?_⟩
          · go_simp; (try with_reducible rfl)
          simp only [Act.put, List.setIfInBounds_toArray, List.set_cons_zero, List.set_cons_succ, List.getElem_toArray, List.getElem_cons_zero, List.getElem_cons_succ]
          refine wpF_take0 20 rfl (by kernel_rfl) (by kernel_rfl) (by kernel_rfl) (by kernel_rfl) no_panic (.inr hS4) rfl ?_
          apply Exists.intro; refine ⟨fun w' => ?_, ?_⟩
          · go_simp; (try with_reducible rfl)
          simp only [Act.put, List.setIfInBounds_toArray, List.set_cons_zero, List.set_cons_succ, List.getElem_toArray, List.getElem_cons_zero, List.getElem_cons_succ]
          refine wpF_take0 21 rfl (by kernel_rfl) (by kernel_rfl) (by kernel_rfl) (by kernel_rfl) no_panic (.inr hS4) rfl ?_
          apply Exists.intro; refine ⟨fun w' => ?_, ?_⟩
          · go_simp; (try with_reducible rfl)
          simp only [Act.put, List.setIfInBounds_toArray, List.set_cons_zero, List.set_cons_succ, List.getElem_toArray, List.getElem_cons_zero, List.getElem_cons_succ]
          refine wpF_take0 22 rfl (by kernel_rfl) (by kernel_rfl) (by kernel_rfl) (by kernel_rfl) no_panic (.inr hS4) rfl ?_
          apply Exists.intro; refine ⟨fun w' => ?_, ?_⟩
          · go_simp; (try with_reducible rfl)
          simp only [Act.put, List.setIfInBounds_toArray, List.set_cons_zero, List.set_cons_succ, List.getElem_toArray, List.getElem_cons_zero, List.getElem_cons_succ]
          refine wpF_take0 23 rfl (by kernel_rfl) (by kernel_rfl) (by kernel_rfl) (by kernel_rfl) no_panic (.inr hS4) rfl ?_
          apply Exists.intro; refine ⟨fun w' => ?_, ?_⟩
          · go_simp; (try with_reducible rfl)
          simp only [Act.put, List.setIfInBounds_toArray, List.set_cons_zero, List.set_cons_succ, List.getElem_toArray, List.getElem_cons_zero, List.getElem_cons_succ]
          refine wpF_take0 24 rfl (by kernel_rfl) (by kernel_rfl) (by kernel_rfl) (by kernel_rfl) no_panic (.inr hS4) rfl ?_
          apply Exists.intro; refine ⟨fun w' => ?_, ?_⟩
          · go_simp; (try with_reducible rfl)
          simp only [Act.put, List.setIfInBounds_toArray, List.set_cons_zero, List.set_cons_succ, List.getElem_toArray, List.getElem_cons_zero, List.getElem_cons_succ]
          refine wpF_done (by kernel_rfl) (NoPanic.normal ?_)
          have Si : Hid (SenderAt (wh.drew.drewN nq) (fun x => x ≠ sb ∧ x ≠ rb) sb win a (L2.drop a)) := Sh.out
          have Ri : Hid (RefAt (wh.drew.drewN nq) (fun x => x ≠ sb ∧ x ≠ rb) rb win a L2) := Rh.out
          have Bi : Hid (Below w.heap.size w (wh.drewN (1 + nq))) := ⟨Bh.out.os, Bh.out.tape, Bh.out.output, Bh.out.size, Bh.out.block⟩
          clear hS hcr SGh SH Sh Rh Bh
          go_wp2_with fail
          go_roundw
          case rel => exact ⟨k + 1, a, sb, L2, by omega, by omega, by go_num, rfl, by omega, by omega, Si.out, Ri.out, HL2.out, Bi.out, i7, i8, by omega⟩
          case measure => simp [intOf]; omega
        · go_wp2_with fail
          have hS : wr.drew.cell? ⟨g, o + k * 3 + 1, none⟩ = some (.int .i64 x) := q1
          refine wp_regionF (fun w' => w'.cell? ⟨g, o + k * 3 + 1, none⟩ = some (.int .i64 x)) [] (by kernel_rfl) ?_
          refine wpF_take0 0 rfl (by kernel_rfl) (by kernel_rfl) (by kernel_rfl) (by kernel_rfl) no_panic (.inr hS) rfl ?_
          apply Exists.intro; refine ⟨fun w' => ?_, ?_⟩
          · go_simp; (try with_reducible rfl)
          simp only [Act.put, List.setIfInBounds_toArray, List.set_cons_zero, List.set_cons_succ, List.getElem_toArray, List.getElem_cons_zero, List.getElem_cons_succ]
          refine wpF_take0 1 rfl (by kernel_rfl) (by kernel_rfl) (by kernel_rfl) (by kernel_rfl) no_panic (.inr hS) rfl ?_
          apply Exists.intro; refine ⟨fun w' => ?_, ?_⟩
          · go_simp; (try with_reducible rfl)
          simp only [Act.put, List.setIfInBounds_toArray, List.set_cons_zero, List.set_cons_succ, List.getElem_toArray, List.getElem_cons_zero, List.getElem_cons_succ]
          refine wpF_take0 2 rfl (by kernel_rfl) (by kernel_rfl) (by kernel_rfl) (by kernel_rfl) no_panic (.inr hS) rfl ?_
          apply Exists.intro; refine ⟨fun w' => ?_, ?_⟩
          · go_simp; (try with_reducible rfl)
          simp only [Act.put, List.setIfInBounds_toArray, List.set_cons_zero, List.set_cons_succ, List.getElem_toArray, List.getElem_cons_zero, List.getElem_cons_succ]
          refine wpF_take0 3 rfl (by kernel_rfl) (by kernel_rfl) (by kernel_rfl) (by kernel_rfl) no_panic (.inr hS) rfl ?_
          apply Exists.intro; refine ⟨fun w' => ?_, ?_⟩
          · go_simp; (try with_reducible rfl)
          simp only [Act.put, List.setIfInBounds_toArray, List.set_cons_zero, List.set_cons_succ, List.getElem_toArray, List.getElem_cons_zero, List.getElem_cons_succ]
          refine wpF_take0 4 rfl (by kernel_rfl) (by kernel_rfl) (by kernel_rfl) (by kernel_rfl) no_panic (.inr hS) rfl ?_
          apply Exists.intro; refine ⟨fun w' => ?_, ?_⟩
          · go_simp; (try with_reducible rfl)
          simp only [Act.put, List.setIfInBounds_toArray, List.set_cons_zero, List.set_cons_succ, List.getElem_toArray, List.getElem_cons_zero, List.getElem_cons_succ]
          refine wpF_take 5 rfl (by kernel_rfl) (by kernel_rfl) (by kernel_rfl) (by kernel_rfl) (by kernel_rfl) no_panic hS rfl ?_
          apply Exists.intro; refine ⟨fun w' hw' => ?_, ?_⟩
          · (try dsimp only at hw'); go_simp; (try with_reducible rfl)
          simp only [Act.put, List.setIfInBounds_toArray, List.set_cons_zero, List.set_cons_succ, List.getElem_toArray, List.getElem_cons_zero, List.getElem_cons_succ]
          refine wpF_take0 7 rfl (by kernel_rfl) (by kernel_rfl) (by kernel_rfl) (by kernel_rfl) no_panic (.inr hS) rfl ?_
          apply Exists.intro; refine ⟨fun w' => ?_, ?_⟩
          · go_simp; (try with_reducible rfl)
          simp only [Act.put, List.setIfInBounds_toArray, List.set_cons_zero, List.set_cons_succ, List.getElem_toArray, List.getElem_cons_zero, List.getElem_cons_succ]
          refine wpF_take0 8 rfl (by kernel_rfl) (by kernel_rfl) (by kernel_rfl) (by kernel_rfl) no_panic (.inr hS) rfl ?_
          apply Exists.intro; refine ⟨fun w' => ?_, ?_⟩
          · go_simp; (try with_reducible rfl)
          simp only [Act.put, List.setIfInBounds_toArray, List.set_cons_zero, List.set_cons_succ, List.getElem_toArray, List.getElem_cons_zero, List.getElem_cons_succ]
          refine wpF_take0 9 rfl (by kernel_rfl) (by kernel_rfl) (by kernel_rfl) (by kernel_rfl) no_panic (.inr hS) rfl ?_
          apply Exists.intro; refine ⟨fun w' => ?_, ?_⟩
          · go_simp; (try with_reducible rfl)
          simp only [Act.put, List.setIfInBounds_toArray, List.set_cons_zero, List.set_cons_succ, List.getElem_toArray, List.getElem_cons_zero, List.getElem_cons_succ]
          refine wpF_take0 10 rfl (by kernel_rfl) (by kernel_rfl) (by kernel_rfl) (by kernel_rfl) no_panic (.inr hS) rfl ?_
          apply Exists.intro; refine ⟨fun w' => ?_, ?_⟩
          · go_simp; (try with_reducible rfl)
          simp only [Act.put, List.setIfInBounds_toArray, List.set_cons_zero, List.set_cons_succ, List.getElem_toArray, List.getElem_cons_zero, List.getElem_cons_succ]
          refine wpF_take0 11 rfl (by kernel_rfl) (by kernel_rfl) (by kernel_rfl) (by kernel_rfl) no_panic (.inr hS) rfl ?_
          apply Exists.intro; refine ⟨fun w' => ?_, ?_⟩
          · go_simp; (try with_reducible rfl)
          simp only [Act.put, List.setIfInBounds_toArray, List.set_cons_zero, List.set_cons_succ, List.getElem_toArray, List.getElem_cons_zero, List.getElem_cons_succ]
          refine wpF_take 12 rfl (by kernel_rfl) (by kernel_rfl) (by kernel_rfl) (by kernel_rfl) (by kernel_rfl) no_panic hS rfl ?_
          apply Exists.intro; refine ⟨fun w' hw' => ?_, ?_⟩
          · (try dsimp only at hw'); go_simp; (try with_reducible rfl)
          simp only [Act.put, List.setIfInBounds_toArray, List.set_cons_zero, List.set_cons_succ, List.getElem_toArray, List.getElem_cons_zero, List.getElem_cons_succ]
          refine wpF_do 6 (by kernel_rfl) rfl rfl (fun K hK => ?_)
          go_simp
          refine (ack_any _ (fun x => x ≠ sb ∧ x ≠ rb) sb win a x (L.drop a) (by exact HS.out) (by simp) (by simp; omega) (by omega)).mono ?_
          rintro e w4 ⟨rfl, s4, g4⟩
          have G4 : Hid (wr.grownBy w4 (some sb)) := ⟨g4.os, g4.tape, g4.output, g4.size, g4.block⟩
          have S4 := Lib.hid s4
          have R4 := Lib.hid (ref_grown HR.out G4.out i9.symm (by simp))
          have B4 : Hid (Below w.heap.size w w4) := below_sender HB.out i7 HB.out.size G4.out
          clear s4 g4
          refine hK.out _ _ ?_ (fun hS6 => ?_)
          · exact cell_keep3 B4.out k1
          clear hK K
          try simp only [Act.put, List.setIfInBounds_toArray, List.set_cons_zero, List.set_cons_succ, List.getElem_toArray, List.getElem_cons_zero, List.getElem_cons_succ]
          refine wpF_do 13 (by kernel_rfl) rfl rfl (fun K hK => ?_)
          go_simp
          refine (rack_any _ (fun x => x ≠ sb ∧ x ≠ rb) rb a win x L (by exact R4.out) (by simp) (by omega) i1).mono ?_
          rintro e w5 ⟨rfl, r5, g5⟩
          have G5 : Hid (w4.grownBy w5 (some rb)) := ⟨g5.os, g5.tape, g5.output, g5.size, g5.block⟩
          have R5 := Lib.hid r5
          clear r5 g5
          have S5 := Lib.hid (sender_grown S4.out G5.out i9 (by simp))
          have B5 : Hid (Below w.heap.size w w5) := below_sender B4.out i8 B4.out.size G5.out
          refine hK.out _ _ ?_ (fun hS13 => ?_)
          · exact cell_keep3 B5.out k1
          clear hK K
          try simp only [Act.put, List.setIfInBounds_toArray, List.set_cons_zero, List.set_cons_succ, List.getElem_toArray, List.getElem_cons_zero, List.getElem_cons_succ]
          refine wpF_take0 14 rfl (by kernel_rfl) (by kernel_rfl) (by kernel_rfl) (by kernel_rfl) no_panic (.inr hS13) rfl ?_
          apply Exists.intro; refine ⟨fun w' => ?_, ?_⟩
          · go_simp; (try with_reducible rfl)
          simp only [Act.put, List.setIfInBounds_toArray, List.set_cons_zero, List.set_cons_succ, List.getElem_toArray, List.getElem_cons_zero, List.getElem_cons_succ]
          refine wpF_done (by kernel_rfl) (NoPanic.normal ?_)
          obtain ⟨a2, ha2, ea, ek⟩ := ack_drop (L := L) x i1
          rw [ea, ek] at S5
          rw [ea] at R5
          clear hS ea ek HS HR HB q0 q1 q2 q2' S4 R4 B4 G4 G5
          have hLk : L.length ≤ k + 1 := by omega
          go_wp2_with fail
          refine (due_all _ (fun x => x ≠ sb ∧ x ≠ rb) sb win a2 (L.drop a2) S5.out (by simp; omega) (by omega)).mono ?_
          rintro e wd ⟨Ad, dd, rfl, sd, bd⟩
          simp only [due_len, List.length_drop] at sd ⊢
          have SD := Lib.hid sd
          have Sd := Lib.hid (S5.out.below bd)
          have Rd := Lib.hid (R5.out.below bd)
          have Bd := Lib.hid (below_then B5.out B5.out.size bd)
          clear sd bd S5 R5 B5
          go_wp2_with fail
          refine (rdue_any _ (fun x => x ≠ sb ∧ x ≠ rb) rb a2 win L Rd.out (by omega) (by omega)).mono ?_
          rintro e we ⟨Ae, de, rfl, se, be⟩
          simp only [due_len] at se ⊢
          have SE := Lib.hid se
          have SDe := Lib.hid (SD.out.below be)
          have Se := Lib.hid (Sd.out.below be)
          have Re := Lib.hid (Rd.out.below be)
          have Be := Lib.hid (below_then Bd.out Bd.out.size be)
          clear se be Sd Rd Bd SD
          go_wp2_with fail
          refine (ints_same _ _ _ _ _ _ _ _ _ _ SDe.out SE.out).mono ?_
          rintro e wf ⟨rfl, nf, rfl⟩
          have Sf : Hid (SenderAt (we.drewN nf) (fun x => x ≠ sb ∧ x ≠ rb) sb win a2 (L.drop a2)) := Lib.hid (Se.out.drawn nf)
          have Rf : Hid (RefAt (we.drewN nf) (fun x => x ≠ sb ∧ x ≠ rb) rb win a2 L) := Re.out
          have Bf : Hid (Below w.heap.size w (we.drewN nf)) := ⟨Be.out.os, Be.out.tape, Be.out.output, Be.out.size, Be.out.block⟩
          generalize we.drewN nf = wf at *
          clear Se Re Be SE SDe
          have cN := cell_keep3 Bf.out k1
          go_wp2_with fail
          refine (body_any _ (fun x => x ≠ sb ∧ x ≠ rb) sb win a2 x (L.drop a2) Sf.out (by simp; omega) (by omega) (fun r' hr' => Nat.le_trans (H6.out r' (List.mem_of_mem_drop hr')) (by omega))).mono ?_
          rintro e wg ⟨⟨Ag, dg, rfl, sg⟩, bg⟩
          have SG := Lib.hid sg
          have Sg := Lib.hid (Sf.out.below bg)
          have Rg := Lib.hid (Rf.out.below bg)
          have Bg := Lib.hid (below_then Bf.out Bf.out.size bg)
          clear sg bg Sf Rf Bf cN
          have cN := cell_keep3 Bg.out k1
          go_wp2_with fail
          refine (rbody_any _ (fun x => x ≠ sb ∧ x ≠ rb) rb a2 win x L Rg.out (by omega) (by omega) H6.out).mono ?_
          rintro e wh ⟨⟨Ah, dh, rfl, sh⟩, bh⟩
          have SGh : Hid (Sl wh (fun _ => True) (.slice Ag (bodyL a2 (L.drop a2) x).length dg) (bodyL a2 (L.drop a2) x)) := Lib.hid ((SG.out.below bh).weaken fun _ _ _ => trivial)
          have SH : Hid (Sl wh (fun _ => True) (.slice Ah (bodyL a2 (L.drop a2) x).length dh) (bodyL a2 (L.drop a2) x)) := Lib.hid (sh.weaken fun _ _ _ => trivial)
          have Sh := Lib.hid (Sg.out.below bh)
          have Rh := Lib.hid (Rg.out.below bh)
          have Bh := Lib.hid (below_then Bg.out Bg.out.size bh)
          clear sh bh Sg Rg Bg cN SG
          generalize bodyL a2 (L.drop a2) x = bl at *
          generalize bodyOk a2 (L.drop a2) x = ob at *
          obtain ⟨_, Ar, dr, hcr⟩ := Rh.out.cells
          have hnx : (a2 : Int) + ((L.drop a2).length : Int) + 1 = (L.length : Int) + 1 := by simp; omega
          have hwl : IntKind.i64.wrap ((L.length : Int) + 1) = (L.length : Int) + 1 := Go.IntWalk.i64_in _ (by omega)
          go_wp2_with fail
          have hS : wh.drew.cell? ⟨rb, 2, none⟩ = some (.slice Ar L.length dr) ∧ Sl wh.drew (fun _ => True) (.slice Ag bl.length dg) bl ∧ Sl wh.drew (fun _ => True) (.slice Ah bl.length dh) bl := ⟨hcr, SGh.out, SH.out⟩
          refine wp_regionF (fun w' => w'.cell? ⟨rb, 2, none⟩ = some (.slice Ar L.length dr) ∧ Sl w' (fun _ => True) (.slice Ag bl.length dg) bl ∧ Sl w' (fun _ => True) (.slice Ah bl.length dh) bl) [] (by kernel_rfl) ?_
          refine wpF_take0 0 rfl (by kernel_rfl) (by kernel_rfl) (by kernel_rfl) (by kernel_rfl) no_panic (.inr hS) rfl ?_
          apply Exists.intro; refine ⟨fun w' => ?_, ?_⟩
          · go_simp; (try with_reducible rfl)
          simp only [Act.put, List.setIfInBounds_toArray, List.set_cons_zero, List.set_cons_succ, List.getElem_toArray, List.getElem_cons_zero, List.getElem_cons_succ]
          refine wpF_take0 1 rfl (by kernel_rfl) (by kernel_rfl) (by kernel_rfl) (by kernel_rfl) no_panic (.inr hS) rfl ?_
          apply Exists.intro; refine ⟨fun w' => ?_, ?_⟩
          · go_simp; (try with_reducible rfl)
          simp only [Act.put, List.setIfInBounds_toArray, List.set_cons_zero, List.set_cons_succ, List.getElem_toArray, List.getElem_cons_zero, List.getElem_cons_succ]
          refine wpF_take0 2 rfl (by kernel_rfl) (by kernel_rfl) (by kernel_rfl) (by kernel_rfl) no_panic (.inr hS) rfl ?_
          apply Exists.intro; refine ⟨fun w' => ?_, ?_⟩
          · go_simp; (try with_reducible rfl)
          simp only [Act.put, List.setIfInBounds_toArray, List.set_cons_zero, List.set_cons_succ, List.getElem_toArray, List.getElem_cons_zero, List.getElem_cons_succ]
          refine wpF_take0 3 rfl (by kernel_rfl) (by kernel_rfl) (by kernel_rfl) (by kernel_rfl) no_panic (.inr hS) rfl ?_
          apply Exists.intro; refine ⟨fun w' => ?_, ?_⟩
          · go_simp; (try with_reducible rfl)
          simp only [Act.put, List.setIfInBounds_toArray, List.set_cons_zero, List.set_cons_succ, List.getElem_toArray, List.getElem_cons_zero, List.getElem_cons_succ]
          refine wpF_take0 5 rfl (by kernel_rfl) (by kernel_rfl) (by kernel_rfl) (by kernel_rfl) no_panic (.inr hS) rfl ?_
          apply Exists.intro; refine ⟨fun w' => ?_, ?_⟩
          · go_simp; (try with_reducible rfl)
          simp only [Act.put, List.setIfInBounds_toArray, List.set_cons_zero, List.set_cons_succ, List.getElem_toArray, List.getElem_cons_zero, List.getElem_cons_succ]
          refine wpF_take0 6 rfl (by kernel_rfl) (by kernel_rfl) (by kernel_rfl) (by kernel_rfl) no_panic (.inr hS) rfl ?_
          apply Exists.intro; refine ⟨fun w' => ?_, ?_⟩
          · go_simp; (try with_reducible rfl)
          simp only [Act.put, List.setIfInBounds_toArray, List.set_cons_zero, List.set_cons_succ, List.getElem_toArray, List.getElem_cons_zero, List.getElem_cons_succ]
          refine wpF_take0 7 rfl (by kernel_rfl) (by kernel_rfl) (by kernel_rfl) (by kernel_rfl) no_panic (.inr hS) rfl ?_
          apply Exists.intro; refine ⟨fun w' => ?_, ?_⟩
          · go_simp; (try with_reducible rfl)
          simp only [Act.put, List.setIfInBounds_toArray, List.set_cons_zero, List.set_cons_succ, List.getElem_toArray, List.getElem_cons_zero, List.getElem_cons_succ]
          refine wpF_take 8 rfl (by kernel_rfl) (by kernel_rfl) (by kernel_rfl) (by kernel_rfl) (by kernel_rfl) no_panic hS rfl ?_
          apply Exists.intro; refine ⟨fun w' hw' => ?_, ?_⟩
          · (try dsimp only at hw'); go_simp; (try with_reducible rfl)
          simp only [Act.put, List.setIfInBounds_toArray, List.set_cons_zero, List.set_cons_succ, List.getElem_toArray, List.getElem_cons_zero, List.getElem_cons_succ]
          refine wpF_take0 9 rfl (by kernel_rfl) (by kernel_rfl) (by kernel_rfl) (by kernel_rfl) no_panic (.inr hS) rfl ?_
          apply Exists.intro; refine ⟨fun w' => ?_, ?_⟩
          · go_simp; (try with_reducible rfl)
          simp only [Act.put, List.setIfInBounds_toArray, List.set_cons_zero, List.set_cons_succ, List.getElem_toArray, List.getElem_cons_zero, List.getElem_cons_succ]
          refine wpF_take0 10 rfl (by kernel_rfl) (by kernel_rfl) (by kernel_rfl) (by kernel_rfl) no_panic (.inr hS) rfl ?_
          apply Exists.intro; refine ⟨fun w' => ?_, ?_⟩
          · go_simp; (try with_reducible rfl)
          simp only [Act.put, List.setIfInBounds_toArray, List.set_cons_zero, List.set_cons_succ, List.getElem_toArray, List.getElem_cons_zero, List.getElem_cons_succ]
          refine wpF_do 4 (by kernel_rfl) rfl rfl (fun K hK => ?_)
          go_simp
          refine (next_all _ (fun x => x ≠ sb ∧ x ≠ rb) sb win a2 (L.drop a2) (by exact Sh.out) (by simp; omega) (by omega)).mono ?_
          rintro e wi ⟨rfl, nq, rfl⟩
          rw [hnx]
          refine hK.out _ _ ?_ (fun hS4 => ?_)
          · exact ⟨hcr, SGh.out, SH.out⟩
          clear hK K
          try simp only [Act.put, List.setIfInBounds_toArray, List.set_cons_zero, List.set_cons_succ, List.getElem_toArray, List.getElem_cons_zero, List.getElem_cons_succ]
          refine wpF_take0 11 rfl (by kernel_rfl) (by kernel_rfl) (by kernel_rfl) (by kernel_rfl) no_panic (.inr hS4) rfl ?_
          apply Exists.intro; refine ⟨fun w' => ?_, ?_⟩
          · go_simp; (try with_reducible rfl)
          simp only [Act.put, List.setIfInBounds_toArray, List.set_cons_zero, List.set_cons_succ, List.getElem_toArray, List.getElem_cons_zero, List.getElem_cons_succ]
          refine wpF_take0 12 rfl (by kernel_rfl) (by kernel_rfl) (by kernel_rfl) (by kernel_rfl) no_panic (.inr hS4) rfl ?_
          apply Exists.intro; refine ⟨fun w' => ?_, ?_⟩
          · go_simp; (try with_reducible rfl)
          simp only [Act.put, List.setIfInBounds_toArray, List.set_cons_zero, List.set_cons_succ, List.getElem_toArray, List.getElem_cons_zero, List.getElem_cons_succ]
          refine wpF_take0 13 rfl (by kernel_rfl) (by kernel_rfl) (by kernel_rfl) (by kernel_rfl) no_panic (.inr hS4) rfl ?_
          apply Exists.intro; refine ⟨fun w' => ?_, ?_⟩
          · go_simp; (try with_reducible rfl)
          simp only [Act.put, List.setIfInBounds_toArray, List.set_cons_zero, List.set_cons_succ, List.getElem_toArray, List.getElem_cons_zero, List.getElem_cons_succ]
          refine wpF_take0 14 rfl (by kernel_rfl) (by kernel_rfl) (by kernel_rfl) (by kernel_rfl) no_panic (.inr hS4) rfl ?_
          apply Exists.intro; refine ⟨fun w' => ?_, ?_⟩
          · go_simp; (try with_reducible rfl)
          simp only [Act.put, List.setIfInBounds_toArray, List.set_cons_zero, List.set_cons_succ, List.getElem_toArray, List.getElem_cons_zero, List.getElem_cons_succ]
          refine wpF_take 15 rfl (by kernel_rfl) (by kernel_rfl) (by kernel_rfl) (by kernel_rfl) (by kernel_rfl) no_panic hS4 rfl ?_
          apply Exists.intro; refine ⟨fun w' hw' => ?_, ?_⟩
          · exact exec_convert 29 9 (.tmp 152) rfl rfl (Sl.string hw'.2.1 29 9 5 Try.underlying29 Try.underlying5 Try.underlying9)
          simp only [Act.put, List.setIfInBounds_toArray, List.set_cons_zero, List.set_cons_succ, List.getElem_toArray, List.getElem_cons_zero, List.getElem_cons_succ]
          refine wpF_take0 16 rfl (by kernel_rfl) (by kernel_rfl) (by kernel_rfl) (by kernel_rfl) no_panic (.inr hS4) rfl ?_
          apply Exists.intro; refine ⟨fun w' => ?_, ?_⟩
          · go_simp; (try with_reducible rfl)
          simp only [Act.put, List.setIfInBounds_toArray, List.set_cons_zero, List.set_cons_succ, List.getElem_toArray, List.getElem_cons_zero, List.getElem_cons_succ]
          refine wpF_take 17 rfl (by kernel_rfl) (by kernel_rfl) (by kernel_rfl) (by kernel_rfl) (by kernel_rfl) no_panic hS4 rfl ?_
          apply Exists.intro; refine ⟨fun w' hw' => ?_, ?_⟩
          · exact exec_convert 29 9 (.tmp 154) rfl rfl (Sl.string hw'.2.2 29 9 5 Try.underlying29 Try.underlying5 Try.underlying9)
          simp only [Act.put, List.setIfInBounds_toArray, List.set_cons_zero, List.set_cons_succ, List.getElem_toArray, List.getElem_cons_zero, List.getElem_cons_succ]
          refine wpF_take0 18 rfl (by kernel_rfl) (by kernel_rfl) (by kernel_rfl) (by kernel_rfl) no_panic (.inr hS4) rfl ?_
          apply Exists.intro; refine ⟨fun w' => ?_, ?_⟩
          · go_simp; (try with_reducible rfl)
          simp only [Act.put, List.setIfInBounds_toArray, List.set_cons_zero, List.set_cons_succ, List.getElem_toArray, List.getElem_cons_zero, List.getElem_cons_succ]
          refine wpF_take0 19 rfl (by kernel_rfl) (by kernel_rfl) (by kernel_rfl) (by kernel_rfl) no_panic (.inr hS4) rfl ?_
          apply Exists.intro; refine ⟨fun w' => ?_, ?_⟩
          · go_simp; (try with_reducible rfl)
          simp only [Act.put, List.setIfInBounds_toArray, List.set_cons_zero, List.set_cons_succ, List.getElem_toArray, List.getElem_cons_zero, List.getElem_cons_succ]
          refine wpF_take0 20 rfl (by kernel_rfl) (by kernel_rfl) (by kernel_rfl) (by kernel_rfl) no_panic (.inr hS4) rfl ?_
          apply Exists.intro; refine ⟨fun w' => ?_, ?_⟩
          · go_simp; (try with_reducible rfl)
          simp only [Act.put, List.setIfInBounds_toArray, List.set_cons_zero, List.set_cons_succ, List.getElem_toArray, List.getElem_cons_zero, List.getElem_cons_succ]
          refine wpF_take0 21 rfl (by kernel_rfl) (by kernel_rfl) (by kernel_rfl) (by kernel_rfl) no_panic (.inr hS4) rfl ?_
          apply Exists.intro; refine ⟨fun w' => ?_, ?_⟩
          · go_simp; (try with_reducible rfl)
          simp only [Act.put, List.setIfInBounds_toArray, List.set_cons_zero, List.set_cons_succ, List.getElem_toArray, List.getElem_cons_zero, List.getElem_cons_succ]
          refine wpF_take0 22 rfl (by kernel_rfl) (by kernel_rfl) (by kernel_rfl) (by kernel_rfl) no_panic (.inr hS4) rfl ?_
          apply Exists.intro; refine ⟨fun w' => ?_, ?_⟩
          · go_simp; (try with_reducible rfl)
          simp only [Act.put, List.setIfInBounds_toArray, List.set_cons_zero, List.set_cons_succ, List.getElem_toArray, List.getElem_cons_zero, List.getElem_cons_succ]
          refine wpF_take0 23 rfl (by kernel_rfl) (by kernel_rfl) (by kernel_rfl) (by kernel_rfl) no_panic (.inr hS4) rfl ?_
          apply Exists.intro; refine ⟨fun w' => ?_, ?_⟩
          · go_simp; (try with_reducible rfl)
          simp only [Act.put, List.setIfInBounds_toArray, List.set_cons_zero, List.set_cons_succ, List.getElem_toArray, List.getElem_cons_zero, List.getElem_cons_succ]
          refine wpF_take0 24 rfl (by kernel_rfl) (by kernel_rfl) (by kernel_rfl) (by kernel_rfl) no_panic (.inr hS4) rfl ?_
          apply Exists.intro; refine ⟨fun w' => ?_, ?_⟩
          · go_simp; (try with_reducible rfl)
          simp only [Act.put, List.setIfInBounds_toArray, List.set_cons_zero, List.set_cons_succ, List.getElem_toArray, List.getElem_cons_zero, List.getElem_cons_succ]
          refine wpF_done (by kernel_rfl) (NoPanic.normal ?_)
          have Si : Hid (SenderAt (wh.drew.drewN nq) (fun x => x ≠ sb ∧ x ≠ rb) sb win a2 (L.drop a2)) := Sh.out
          have Ri : Hid (RefAt (wh.drew.drewN nq) (fun x => x ≠ sb ∧ x ≠ rb) rb win a2 L) := Rh.out
          have Bi : Hid (Below w.heap.size w (wh.drewN (1 + nq))) := ⟨Bh.out.os, Bh.out.tape, Bh.out.output, Bh.out.size, Bh.out.block⟩
          clear hS hcr SGh SH Sh Rh Bh
          go_wp2_with fail
          go_roundw
          case rel => exact ⟨k + 1, a2, sb, L, by omega, by omega, by go_num, rfl, by omega, by omega, Si.out, Ri.out, H6.out, Bi.out, i7, i8, by omega⟩
          case measure => simp [intOf]; omega
    · by_cases h1 : k < l.length
      · have h2 : ¬ (k : Int) < 100 := by omega
        have h3 : (k : Int) < n1 := by have := HN.out; omega
        clear hlt h1
        go_wp2_with fail
        go_ret
        exact ⟨rfl, HB.out⟩
      · have h2 : ¬ (k : Int) < n1 := by have := HN.out; omega
        clear hlt h1
        go_wp2_with fail
        go_ret
        exact ⟨rfl, HB.out⟩
end Go.Proofs.Ythfbjapbfhafbaa
