/- Contracts of the reference sender's functions. -/
import Derived.Test.YthfbjapbfhafbaaSenderH
import Derived.Deep.DeepCutAuto
import Derived.Lib.MinMax
set_option linter.unusedSimpArgs false
set_option linter.unusedVariables false
namespace Go.Proofs.Ythfbjapbfhafbaa
open Go.RowKit Go.Proofs Go.Trc

/-- A reference sender lies at block b. -/
def RefAt (w : World) (ok : Nat → Prop) (b : Nat) (win acked : Int) (L : List (List UInt8)) : Prop :=
  ∃ v, w.heap[b]? = some (.cells #[.int .i64 win, .int .i64 acked, v] 45 (0, 0)) ∧ Sl w ok v L

theorem rcells {w : World} {b : Nat} {x y z : Value} {t : TypeId} (h : w.heap[b]? = some (.cells #[x, y, z] t (0, 0))) :
    w.cell? ⟨b, 0, none⟩ = some x ∧ w.cell? ⟨b, 1, none⟩ = some y ∧ w.cell? ⟨b, 2, none⟩ = some z ∧ w.frozen? ⟨b, 0, none⟩ = false ∧ w.frozen? ⟨b, 1, none⟩ = false ∧ w.frozen? ⟨b, 2, none⟩ = false :=
  cells3 h

theorem RefAt.weaken {w w' : World} {ok ok' : Nat → Prop} {b : Nat} {win acked : Int} {L : List (List UInt8)} (h : RefAt w ok b win acked L) (hb : w'.heap[b]? = w.heap[b]?)
    (hm : ∀ x, ok x → x < w.heap.size → ok' x ∧ w'.heap[x]? = w.heap[x]?) : RefAt w' ok' b win acked L := by
  obtain ⟨v, hv, hk⟩ := h
  exact ⟨v, hb.trans hv, hk.mono hm⟩

theorem RefAt.lt {w : World} {ok : Nat → Prop} {b : Nat} {win acked : Int} {L : List (List UInt8)} (h : RefAt w ok b win acked L) : b < w.heap.size := by
  obtain ⟨v, hv, _⟩ := h
  exact (Array.getElem?_eq_some_iff.1 hv).1

theorem RefAt.below {w w' : World} {ok : Nat → Prop} {b : Nat} {win acked : Int} {L : List (List UInt8)} (h : RefAt w ok b win acked L) (hb : Below w.heap.size w w') : RefAt w' ok b win acked L :=
  h.weaken (hb.block b h.lt) fun x hx hl => ⟨hx, hb.block x hl⟩

theorem rnew (n : Int) (w : World) (hn : -9223372036854775808 ≤ n ∧ n ≤ 9223372036854775807) (ok : Nat → Prop) :
    Calls Try.prog 16 #[.int .i64 n] w fun e w' => e = .returned (.pointer (some ⟨w.heap.size, 0, none⟩)) ∧ RefAt w' ok w.heap.size (min (max n 1) 64) 0 [] ∧ Below w.heap.size w w' := by
  go_enter Try.func16, Try.ntmps16
  go_wp2
  go_ret
  exact ⟨rfl, ⟨_, heap_alloc_new w _, Sl.nil0 _ _⟩, (Below.refl _ _).alloc (Nat.le_refl _) _⟩

theorem rpush_full (w : World) (b n c a : Nat) (A : Option Addr) (win : Int) (v2 : Value)
    (hs : w.heap[b]? = some (.cells #[.int .i64 win, .int .i64 a, .slice A n c] 45 (0, 0))) (hw : win ≤ (n : Int) - a) (hn : n ≤ 100) (ha : a ≤ n) :
    Calls Try.prog 17 #[.pointer (some ⟨b, 0, none⟩), v2] w fun e w' => e = .returned (.tuple #[.int .i64 0, .int .i64 20]) ∧ ∃ k, w' = w.drewN k := by
  obtain ⟨c0, c1, c2, f0, f1, f2⟩ := cells3 hs
  clear hs
  have hw1 : IntKind.i64.wrap ((n : Int) - a) = (n : Int) - a := Go.IntWalk.i64_in _ (by omega)
  go_enter Try.func17, Try.ntmps17
  go_wp2_with fail
  go_quiet (fail)
  go_wp2_with fail
  go_ret2
  exact ⟨rfl, _, rfl⟩

theorem rpush_end {w w2 : World} {ok' : Nat → Prop} {b : Nat} {win acked : Int} {v0 v' : Value} {rows : List (List UInt8)} (hb : Below w.heap.size w w2)
    (hs : w.heap[b]? = some (.cells #[.int .i64 win, .int .i64 acked, v0] 45 (0, 0))) (h : Sl w2 ok' v' rows) (hnb : ¬ ok' b) :
    RefAt (w2.setCell ⟨b, 2, none⟩ v') ok' b win acked rows ∧ w.grownBy (w2.setCell ⟨b, 2, none⟩ v') (some b) := by
  have hlt : b < w.heap.size := (Array.getElem?_eq_some_iff.1 hs).1
  have hs2 := (hb.block b hlt).trans hs
  have e := heap_setCell_same w2 b 2 _ _ v' hs2
  refine ⟨⟨v', e, h.mono fun x hx hl => ⟨hx, Below.heap_setCell w2 ⟨b, 2, none⟩ v' x (fun hxb => hnb (by simp only at hxb; subst hxb; exact hx))⟩⟩, ⟨hb.os, hb.tape, hb.output, ?_, fun i hi hne => ?_⟩⟩
  · exact Nat.le_trans hb.size (by simp [World.setCell])
  · exact (Below.heap_setCell w2 ⟨b, 2, none⟩ v' i (fun e => hne (by rw [e]))).trans (hb.block i hi)

theorem rack_end {w : World} {ok : Nat → Prop} {b : Nat} {win acked x : Int} {v0 : Value} {rows : List (List UInt8)}
    (hs : w.heap[b]? = some (.cells #[.int .i64 win, .int .i64 acked, v0] 45 (0, 0))) (h : Sl w ok v0 rows) (hnb : ¬ ok b) :
    RefAt (w.setCell ⟨b, 1, none⟩ (.int .i64 x)) ok b win x rows ∧ w.grownBy (w.setCell ⟨b, 1, none⟩ (.int .i64 x)) (some b) := by
  have e := heap_setCell_same w b 1 _ _ (.int .i64 x) hs
  refine ⟨⟨v0, e, h.mono fun y hy hl => ⟨hy, Below.heap_setCell w ⟨b, 1, none⟩ (.int .i64 x) y (fun hxb => hnb (by simp only at hxb; subst hxb; exact hy))⟩⟩, ⟨rfl, rfl, rfl, by simp [World.setCell], fun i hi hne => Below.heap_setCell w ⟨b, 1, none⟩ (.int .i64 x) i (fun e => hne (by rw [e]))⟩⟩

set_option maxHeartbeats 1000000 in
theorem rpush_ok (w : World) (ok ok2 : Nat → Prop) (b n c a : Nat) (A : Option Addr) (win : Int) (L : List (List UInt8)) (v2 : Value) (xs : List UInt8)
    (hs : w.heap[b]? = some (.cells #[.int .i64 win, .int .i64 a, .slice A n c] 45 (0, 0))) (hk : Sl w ok (.slice A n c) L) (hx : Sl w ok2 v2 xs) (hnb : ¬ ok b) (hup : ∀ x, w.heap.size ≤ x → ok x)
    (hw : (n : Int) - a < win) (hn : n ≤ 100) (ha : a ≤ n) (hxs : xs.length ≤ 140737488355328) :
    Calls Try.prog 17 #[.pointer (some ⟨b, 0, none⟩), v2] w fun e w' => e = .returned (.tuple #[.int .i64 ((n : Int) + 1), .int .i64 0]) ∧
      RefAt w' ok b win a (L ++ [xs]) ∧ w.grownBy w' (some b) := by
  obtain ⟨c0, c1, c2, f0, f1, f2⟩ := cells3 hs
  have hlt := World.block_lt_of_cell? w _ c2
  obtain ⟨hnk, hnc, _⟩ := hk.len_eq
  have HK := Lib.hid hk
  have HX := Lib.hid hx
  have HS := Lib.hid hs
  have HN := Lib.hid hnk
  clear hk hx hs hnk
  have hw1 : IntKind.i64.wrap ((n : Int) - a) = (n : Int) - a := Go.IntWalk.i64_in _ (by omega)
  have hnw : ¬ win ≤ (n : Int) - a := by omega
  go_enter Try.func17, Try.ntmps17
  go_wp2_with fail
  go_quiet (fail)
  have c2' : ∀ o, ((w.drewN nq).alloc o).cell? ⟨b, 2, none⟩ = some (.slice A n c) := cell_alloc (w := w.drewN nq) c2
  go_wp2_with (at_builtin; refine wpList_append_own' (α := List UInt8) (xs := []) (ys := L) rfl (.tmp 22) (.tmp 26) 22 29 rfl (.slice none 0 0) 24 Try.underlying22 rowsInfo rfl w.heap.size (ok := fun x => ok x ∧ x < w.heap.size) (ok2 := fun x => ok x ∧ x < w.heap.size) rfl rfl (Own.made _ _ _ _ (Nat.le_refl _)) ((by exact HK.out.bound : Sl (w.drewN nq) (fun x => ok x ∧ x < w.heap.size) (.slice A n c) L).alloc _).arg (fun x hx e => Nat.ne_of_lt hx.2 (Option.some.inj e)) (fun _ _ h => h) (by simp) (by have := HN.out; simp; omega) (by have := HN.out; simp; omega) n (by have := HN.out; simp; omega) ?_)
  intro A2 d2 w2 o2 g2 _
  have BQ : Below w.heap.size w (w.drewN nq) := ⟨rfl, rfl, rfl, Nat.le_refl _, fun _ _ => rfl⟩
  have B2 : Hid (Below w.heap.size w w2) := below_append BQ (Nat.le_refl _) g2 (by simp [Value.ownBlock])
  have O2 : Hid (Own w2 w.heap.size 29 (fun x => ok x ∧ some x ≠ (Value.slice A2 n d2).ownBlock) (.slice A2 n d2) L) := Own.weaken (show Own w2 w.heap.size 29 (fun x => ok x ∧ x < w.heap.size) (.slice A2 n d2) L from o2) fun _ _ h => Rep.mono (fun x hx _ => ⟨⟨hx.1, fun e => by have := o2.base x e.symm; omega⟩, rfl⟩) h
  clear o2 g2 BQ c2'
  go_wp2_with (at_builtin; refine wpList_copy_bytes rfl (.tmp 28) (.tmp 29) 29 5 rfl Try.underlying29 bytesInfo rfl rfl ((HX.out.below B2.out).alloc _) hxs _ rfl ?_)
  intro A3 d3 w3 s3 b3 _
  have B3 : Hid (Below w2.heap.size w2 w3) := below_new b3
  have S3 : Hid (Sl w3 (fun x => w2.heap.size ≤ x) (.slice A3 xs.length d3) xs) := s3.weaken fun x hx _ => by subst hx; simp
  clear s3 b3
  go_wp2_with (at_builtin; refine wpList_append_own' (α := List UInt8) (xs := L) (ys := [xs]) rfl (.tmp 27) (.tmp 31) 22 29 rfl (.slice none 0 0) 24 Try.underlying22 rowsInfo rfl w.heap.size (ok := fun x => ok x ∧ some x ≠ (Value.slice A2 n d2).ownBlock) (ok2 := fun x => w2.heap.size ≤ x) rfl rfl ((O2.out.below B3.out).below ((Below.refl _ _).alloc (Nat.le_refl _) _)) (Arg.single _ ⟨_, rfl, S3.out⟩) (fun x hx => hx.2) (fun _ _ h => Rep.mono (fun x hx _ => ⟨⟨hup x (by have := B2.out.size; omega), fun e => by have := (O2.out.lt x e.symm).2; omega⟩, rfl⟩) h) (by have := B2.out.size; have := B3.out.size; simp; omega) (by have := HN.out; simp; omega) (by have := HN.out; simp; omega) (n + 1) (by have := HN.out; simp; omega) ?_)
  intro A4 d4 w4 o4 g4 _
  have B4 : Hid (Below w.heap.size w w4) := below_append (below_then B2.out B2.out.size B3.out) (Nat.le_trans B2.out.size B3.out.size) g4 O2.out.base
  have S4 : Hid (Sl w4 ok (.slice A4 (n + 1) d4) (L ++ [xs])) := o4.sl ok (fun x hx => hup x hx) (fun _ _ h => Rep.mono (fun x hx _ => ⟨hx.1, rfl⟩) h)
  have k2 := (B4.out.cell (p := ⟨b, 2, none⟩) hlt).trans c2
  have k2' := (B4.out.frozen (p := ⟨b, 2, none⟩) hlt).trans f2
  clear o4 g4 O2 B2 B3 S3
  go_wp2_with fail
  go_ret2
  exact ⟨rfl, rpush_end B4.out HS.out S4.out hnb⟩

theorem rpush_any (w : World) (ok ok2 : Nat → Prop) (b a : Nat) (win : Int) (L : List (List UInt8)) (v2 : Value) (xs : List UInt8)
    (hs : RefAt w ok b win a L) (hx : Sl w ok2 v2 xs) (hnb : ¬ ok b) (hup : ∀ x, w.heap.size ≤ x → ok x) (hn : L.length ≤ 100) (ha : a ≤ L.length) (hxs : xs.length ≤ 140737488355328) :
    Calls Try.prog 17 #[.pointer (some ⟨b, 0, none⟩), v2] w fun e w' => e = .returned (.tuple #[.int .i64 (pushN win a (L.drop a)), .int .i64 (pushE win (L.drop a))]) ∧
      RefAt w' ok b win a (if (L.length : Int) - a < win then L ++ [xs] else L) ∧ w.grownBy w' (some b) := by
  obtain ⟨v, hv, hk⟩ := id hs
  obtain ⟨A, c, rfl, r⟩ := id hk
  have hd : ((L.drop a).length : Int) = (L.length : Int) - a := by simp; omega
  unfold pushN pushE
  rw [hd]
  by_cases hw : (L.length : Int) - a < win
  · rw [if_pos hw, if_pos hw, if_pos hw]
    refine (rpush_ok w ok ok2 b L.length c a A win L v2 xs hv hk hx hnb hup hw hn ha hxs).mono ?_
    rintro e w' ⟨rfl, h1, h2⟩
    refine ⟨?_, h1, h2⟩
    rw [show (a : Int) + ((L.length : Int) - a + 1) = (L.length : Int) + 1 by omega]
  · rw [if_neg hw, if_neg hw, if_neg hw]
    refine (rpush_full w b L.length c a A win v2 hv (by omega) hn ha).mono ?_
    rintro e w' ⟨rfl, k, rfl⟩
    exact ⟨rfl, hs, grown_drawn w k _⟩

theorem rack_any (w : World) (ok : Nat → Prop) (b a : Nat) (win x : Int) (L : List (List UInt8)) (hs : RefAt w ok b win a L) (hnb : ¬ ok b) (hn : L.length ≤ 100) (ha : a ≤ L.length) :
    Calls Try.prog 18 #[.pointer (some ⟨b, 0, none⟩), .int .i64 x] w fun e w' => e = .returned (.int .i64 (ackE a (L.drop a) x)) ∧
      RefAt w' ok b win (ackA a (L.drop a) x) L ∧ w.grownBy w' (some b) := by
  obtain ⟨v, hv, hk⟩ := id hs
  obtain ⟨A, c, rfl, r⟩ := id hk
  obtain ⟨c0, c1, c2, f0, f1, f2⟩ := cells3 hv
  have hd : ((L.drop a).length : Int) = (L.length : Int) - a := by simp; omega
  by_cases hx : (a : Int) ≤ x ∧ x ≤ L.length
  · have ho : ackOk a (L.drop a) x = true := by unfold ackOk; rw [hd]; simp; omega
    unfold ackE ackA
    rw [ho, if_pos rfl, if_pos rfl]
    have HV := Lib.hid hv
    have HK := Lib.hid hk
    have h1 : ¬ x < (a : Int) := by omega
    have h2 : ¬ (L.length : Int) < x := by omega
    clear hv hk hs r ho
    go_enter Try.func18, Try.ntmps18
    go_wp2_with fail
    go_ret
    exact ⟨rfl, rack_end HV.out HK.out hnb⟩
  · have ho : ackOk a (L.drop a) x = false := by unfold ackOk; rw [hd, Bool.eq_false_iff]; simp only [ne_eq, Bool.and_eq_true, decide_eq_true_eq]; omega
    unfold ackE ackA
    rw [ho]
    have HS := Lib.hid hs
    clear hv hk hs r ho
    by_cases h1 : x < (a : Int)
    · go_enter Try.func18, Try.ntmps18
      go_wp2_with fail
      go_ret
      exact ⟨rfl, HS.out, grown_drawn w 0 _⟩
    · have h2 : (L.length : Int) < x := by omega
      go_enter Try.func18, Try.ntmps18
      go_wp2_with fail
      go_ret
      exact ⟨rfl, HS.out, grown_drawn w 0 _⟩

set_option maxHeartbeats 1000000 in
theorem rdue_any (w : World) (ok : Nat → Prop) (b a : Nat) (win : Int) (L : List (List UInt8)) (hs : RefAt w ok b win a L) (hn : L.length ≤ 100) (ha : a ≤ L.length) :
    Calls Try.prog 20 #[.pointer (some ⟨b, 0, none⟩)] w (RetNew w (dueOf a (L.length - a))) := by
  obtain ⟨v, hv, hk⟩ := id hs
  obtain ⟨A, c, rfl, r⟩ := id hk
  obtain ⟨c0, c1, c2, f0, f1, f2⟩ := cells3 hv
  have hlt := World.block_lt_of_cell? w _ c2
  clear hv hk hs r
  generalize L.length = n at *
  have c1' := cell_alloc c1
  go_enter Try.func20, Try.ntmps20
  go_wp2_with fail
  go_loopw [3, 4] (fun v i wr => ∃ (k : Nat) (A1 : Option Addr) (cc : Nat), k ≤ n - a ∧ i = .int .i64 ((a : Int) + 1 + k) ∧ v = .slice A1 k cc ∧ Own wr w.heap.size 3 (fun _ => False) (.slice A1 k cc) (dueOf a k) ∧ Below w.heap.size w wr)
      (fun _ i _ => n + 1 - (intOf i).toNat)
  case atStart => exact ⟨0, _, 0, Nat.zero_le _, by simp, rfl, Own.made _ _ _ _ (Nat.le_refl _), (Below.refl _ _).alloc (Nat.le_refl _) _⟩
  case round =>
    obtain ⟨k, A1, cc, hk, rfl, rfl, hown, hb⟩ := hrel
    have k2 := (hb.cell (p := ⟨b, 2, none⟩) hlt).trans c2
    have HO := Lib.hid hown
    have HB := Lib.hid hb
    have hsz := hb.size
    clear hown hb
    by_cases hlt : k < n - a
    · have hle : (a : Int) + 1 + k ≤ n := by omega
      go_wp2_with (at_builtin; refine wpList_append_own' (α := Int) (xs := dueOf a k) (ys := [(a : Int) + 1 + k]) rfl (.tmp 20) (.tmp 22) 32 3 rfl (.int .i64 0) 8 Try.underlying32 intsInfo rfl w.heap.size (ok := fun _ => False) rfl rfl (HO.out.below ((Below.refl _ _).alloc (Nat.le_refl _) _)) (Arg.single (ok := fun _ => True) _ ⟨rfl, by omega⟩) (fun _ h => h.elim) (fun _ _ h => h) (by simp; omega) (by simp [due_len]; omega) (by simp [due_len]; omega) (k + 1) (by simp [due_len]) ?_)
      intro A' c' w' o' g' _
      have hb' := below_append HB.out hsz g' HO.out.base
      rw [← due_succ] at o'
      have HO' := Lib.hid o'
      have HB' := Lib.hid hb'
      have hw1 : IntKind.i64.wrap ((a : Int) + 1 + k + 1) = (a : Int) + 1 + k + 1 := Go.IntWalk.i64_in _ (by omega)
      clear o' hb' g' HO HB
      go_wp2_with fail
      go_roundw
      case rel => exact ⟨k + 1, A', c', by omega, by congr 1, rfl, HO'.out, HB'.out⟩
      case measure => simp [intOf]; omega
    · have hkn : k = n - a := by omega
      subst hkn
      have hle : ¬ (a : Int) + 1 + ((n - a : Nat) : Int) ≤ n := by omega
      go_wp2_with fail
      go_ret
      have hs := HO.out.sl (fun b => w.heap.size ≤ b) (fun _ h => h) (fun _ _ h => h)
      exact .mk hs HB.out

set_option maxHeartbeats 1000000 in
theorem rbody_any (w : World) (ok : Nat → Prop) (b a : Nat) (win x : Int) (L : List (List UInt8)) (hs : RefAt w ok b win a L) (hn : L.length ≤ 100) (ha : a ≤ L.length) (hl : ∀ r ∈ L, r.length ≤ 60) :
    Calls Try.prog 21 #[.pointer (some ⟨b, 0, none⟩), .int .i64 x] w fun e w' =>
      (∃ A' c', e = .returned (.tuple #[.slice A' (bodyL a (L.drop a) x).length c', .bool (bodyOk a (L.drop a) x)]) ∧ Sl w' (fun y => w.heap.size ≤ y) (.slice A' (bodyL a (L.drop a) x).length c') (bodyL a (L.drop a) x)) ∧ Below w.heap.size w w' := by
  obtain ⟨v, hv, hk⟩ := id hs
  obtain ⟨A, c, rfl, r⟩ := id hk
  obtain ⟨c0, c1, c2, f0, f1, f2⟩ := cells3 hv
  have hd : ((L.drop a).length : Int) = (L.length : Int) - a := by simp; omega
  by_cases hx : (a : Int) < x ∧ x ≤ L.length
  · have ho : bodyOk a (L.drop a) x = true := by unfold bodyOk; rw [hd]; simp; omega
    obtain ⟨k, rfl⟩ : ∃ k : Nat, x = (k : Int) + 1 := ⟨(x - 1).toNat, by omega⟩
    have hkL : k < L.length := by omega
    have e1 : bodyL a (L.drop a) ((k : Int) + 1) = L[k] := by
      unfold bodyL
      rw [if_pos ho, List.getD_eq_getElem?_getD, List.getElem?_drop, show a + ((k : Int) + 1 - a - 1).toNat = k by omega, List.getElem?_eq_getElem hkL]
      rfl
    rw [ho, e1]
    obtain ⟨g, o, A1, cc1, hA, hokg, hrow, hvr⟩ := hk.row k hkL
    subst hA
    have h60 := hl _ (List.getElem_mem hkL)
    generalize L[k] = r at *
    have HR := Lib.hid hvr
    have h1 : ¬ (k : Int) + 1 ≤ a := by omega
    have h2 : ¬ (L.length : Int) < (k : Int) + 1 := by omega
    have hk0 : (0 : Int) ≤ k := by omega
    have hk1 : (k : Int) < L.length := by omega
    have hsub : (k : Int) + 1 - 1 = k := by omega
    have hwk : IntKind.i64.wrap (k : Int) = k := Go.IntWalk.i64_in _ (by omega)
    have c2' := cell_alloc c2
    have hrow' := cell_alloc hrow
    clear hv hk hs ho e1 hvr hl hx
    go_enter Try.func21, Try.ntmps21
    go_wp2_with (at_builtin; refine wpList_copy_bytes rfl (.tmp 21) (.tmp 29) 29 5 rfl Try.underlying29 bytesInfo rfl rfl (HR.out.alloc _) (by omega) _ rfl ?_)
    intro A4 c4 w4 s4 b4 _
    have B4 : Hid (Below w.heap.size w w4) := below_new b4
    have S4 : Hid (Sl w4 (fun y => w.heap.size ≤ y) (.slice A4 r.length c4) r) := s4.weaken fun x hx _ => by subst hx; simp
    clear s4 b4 c2' hrow'
    go_wp2_with fail
    go_ret2
    exact ⟨⟨A4, c4, rfl, S4.out⟩, B4.out⟩
  · have ho : bodyOk a (L.drop a) x = false := by unfold bodyOk; rw [hd, Bool.eq_false_iff]; simp only [ne_eq, Bool.and_eq_true, decide_eq_true_eq]; omega
    have e1 : bodyL a (L.drop a) x = [] := by unfold bodyL; rw [ho]; rfl
    rw [ho, e1]
    clear hv hk hs ho e1 r hl
    by_cases h1 : x ≤ (a : Int)
    · go_enter Try.func21, Try.ntmps21
      go_wp2_with fail
      go_ret2
      exact ⟨⟨none, 0, rfl, Sl.nil0 _ _⟩, Below.refl _ _⟩
    · have h2 : (L.length : Int) < x := by omega
      go_enter Try.func21, Try.ntmps21
      go_wp2_with fail
      go_ret2
      exact ⟨⟨none, 0, rfl, Sl.nil0 _ _⟩, Below.refl _ _⟩

/-- 'Ints' at two equal rows. -/
theorem ints_same (w : World) (ok1 ok2 : Nat → Prop) (A1 A2 : Option Addr) (n1 n2 d1 d2 : Nat) (xs : List Int) (h1 : Sl w ok1 (.slice A1 n1 d1) xs) (h2 : Sl w ok2 (.slice A2 n2 d2) xs) :
    Calls Try.prog 19 #[.slice A1 n1 d1, .slice A2 n2 d2] w fun e w' => e = .returned (.bool true) ∧ ∃ k, w' = w.drewN k := by
  obtain ⟨e1, l1, l1'⟩ := h1.len_eq
  obtain ⟨e2, l2, l2'⟩ := h2.len_eq
  obtain rfl : n1 = n2 := by omega
  have H1 := Lib.hid h1
  have H2 := Lib.hid h2
  have HE := Lib.hid e1
  clear h1 h2 e1 e2
  go_enter Try.func19, Try.ntmps19
  go_wp2_with fail
  go_loopw [5] (fun i wr => ∃ (k j : Nat), k ≤ n1 ∧ i = .int .i64 k ∧ wr = w.drewN j) (fun i _ => n1 - (intOf i).toNat)
  case atStart => exact ⟨0, 0, Nat.zero_le _, rfl, rfl⟩
  case round =>
    obtain ⟨k, j, hk, rfl, rfl⟩ := hrel
    by_cases hlt : k < n1
    · have hkx : k < xs.length := by have := HE.out; omega
      obtain ⟨g1, o1, hA1, _, hc1⟩ := H1.out.ints (by omega)
      obtain ⟨g2, o2, hA2, _, hc2⟩ := H2.out.ints (by omega)
      subst hA1 hA2
      have k1 := (hc1 k hkx).1
      have k2 := (hc2 k hkx).1
      generalize xs[k] = y at *
      have hk1 : (k : Int) < n1 := by omega
      have hk0 : (0 : Int) ≤ k := by omega
      clear hc1 hc2
      go_wp2_with fail
      go_quiet (fail)
      go_wp2_with fail
      go_roundw
      case rel => exact ⟨k + 1, _, by omega, by go_num, rfl⟩
      case measure => simp [intOf]; omega
    · go_wp2_with fail
      go_ret
      exact ⟨rfl, _, rfl⟩
end Go.Proofs.Ythfbjapbfhafbaa
