/- The sender's functions at every state: what they answer, and what is kept then. -/
import Derived.Test.YthfbjapbfhafbaaSenderC
set_option linter.unusedSimpArgs false
set_option linter.unusedVariables false
namespace Go.Proofs.Ythfbjapbfhafbaa
open Go.RowKit Go.Proofs Go.Trc

/-! ### What a sender does, over numbers and lists -/
def pushN (win acked : Int) (kept : List (List UInt8)) : Int := if (kept.length : Int) < win then acked + (kept.length + 1) else 0
def pushE (win : Int) (kept : List (List UInt8)) : Int := if (kept.length : Int) < win then 0 else 20
def pushK (win : Int) (kept : List (List UInt8)) (xs : List UInt8) : List (List UInt8) := if (kept.length : Int) < win then kept ++ [xs] else kept
def ackOk (acked : Int) (kept : List (List UInt8)) (x : Int) : Bool := decide (acked ≤ x) && decide (x ≤ acked + kept.length)
def ackE (acked : Int) (kept : List (List UInt8)) (x : Int) : Int := if ackOk acked kept x = true then 0 else 22
def ackA (acked : Int) (kept : List (List UInt8)) (x : Int) : Int := if ackOk acked kept x = true then x else acked
def ackK (acked : Int) (kept : List (List UInt8)) (x : Int) : List (List UInt8) := if ackOk acked kept x = true then kept.drop (x - acked).toNat else kept
def bodyOk (acked : Int) (kept : List (List UInt8)) (x : Int) : Bool := decide (acked < x) && decide (x ≤ acked + kept.length)
def bodyL (acked : Int) (kept : List (List UInt8)) (x : Int) : List UInt8 := if bodyOk acked kept x = true then kept.getD (x - acked - 1).toNat [] else []

theorem SenderAt.weaken {w w' : World} {ok ok' : Nat → Prop} {b : Nat} {win acked : Int} {kept : List (List UInt8)} (h : SenderAt w ok b win acked kept) (hb : w'.heap[b]? = w.heap[b]?)
    (hm : ∀ x, ok x → x < w.heap.size → ok' x ∧ w'.heap[x]? = w.heap[x]?) : SenderAt w' ok' b win acked kept := by
  obtain ⟨v, hv, hk⟩ := h
  exact ⟨v, hb.trans hv, hk.mono hm⟩

theorem SenderAt.drawn {w : World} {ok : Nat → Prop} {b : Nat} {win acked : Int} {kept : List (List UInt8)} (h : SenderAt w ok b win acked kept) (k : Nat) : SenderAt (w.drewN k) ok b win acked kept := h

theorem SenderAt.lt {w : World} {ok : Nat → Prop} {b : Nat} {win acked : Int} {kept : List (List UInt8)} (h : SenderAt w ok b win acked kept) : b < w.heap.size := by
  obtain ⟨v, hv, _⟩ := h
  exact (Array.getElem?_eq_some_iff.1 hv).1

theorem SenderAt.below {w w' : World} {ok : Nat → Prop} {b : Nat} {win acked : Int} {kept : List (List UInt8)} (h : SenderAt w ok b win acked kept) (hb : Below w.heap.size w w') : SenderAt w' ok b win acked kept :=
  h.weaken (hb.block b h.lt) fun x hx hl => ⟨hx, hb.block x hl⟩

theorem grown_drawn (w : World) (k : Nat) (row : Option Nat) : w.grownBy (w.drewN k) row := ⟨rfl, rfl, rfl, Nat.le_refl _, fun _ _ _ => rfl⟩

theorem push_any (w : World) (ok ok2 : Nat → Prop) (b : Nat) (win acked : Int) (kept : List (List UInt8)) (v2 : Value) (xs : List UInt8)
    (hs : SenderAt w ok b win acked kept) (hx : Sl w ok2 v2 xs) (hnb : ¬ ok b) (hup : ∀ x, w.heap.size ≤ x → ok x)
    (hn : kept.length ≤ 100) (ha : 0 ≤ acked ∧ acked ≤ 1000000) (hxs : xs.length ≤ 140737488355328) :
    Calls Try.prog 9 #[.pointer (some ⟨b, 0, none⟩), v2] w fun e w' => e = .returned (.tuple #[.int .i64 (pushN win acked kept), .int .i64 (pushE win kept)]) ∧
      SenderAt w' ok b win acked (pushK win kept xs) ∧ w.grownBy w' (some b) := by
  obtain ⟨v, hv, hk⟩ := id hs
  obtain ⟨A, c, rfl, r⟩ := id hk
  by_cases hw : (kept.length : Int) < win
  · refine (push_ok w ok ok2 b kept.length c A win acked kept v2 xs hv hk hx hnb hw hn ha hxs).mono ?_
    rintro e w' ⟨rfl, h1, h2⟩
    unfold pushN pushE pushK
    rw [if_pos hw, if_pos hw, if_pos hw]
    refine ⟨rfl, h1.weaken rfl fun x hx _ => ⟨?_, rfl⟩, h2⟩
    rcases hx with hx | hx
    · exact hx
    · exact hup x hx
  · refine (push_full w b kept.length c A win acked v2 hv (by omega)).mono ?_
    rintro e w' ⟨rfl, k, rfl⟩
    unfold pushN pushE pushK
    rw [if_neg hw, if_neg hw, if_neg hw]
    exact ⟨rfl, hs.drawn k, grown_drawn w k _⟩

theorem ack_any (w : World) (ok : Nat → Prop) (b : Nat) (win acked x : Int) (kept : List (List UInt8))
    (hs : SenderAt w ok b win acked kept) (hnb : ¬ ok b) (hn : kept.length ≤ 100) (ha : 0 ≤ acked ∧ acked ≤ 1000000) :
    Calls Try.prog 11 #[.pointer (some ⟨b, 0, none⟩), .int .i64 x] w fun e w' => e = .returned (.int .i64 (ackE acked kept x)) ∧
      SenderAt w' ok b win (ackA acked kept x) (ackK acked kept x) ∧ w.grownBy w' (some b) := by
  obtain ⟨v, hv, hk⟩ := id hs
  obtain ⟨A, c, rfl, r⟩ := id hk
  unfold ackE ackA ackK
  by_cases hx : acked ≤ x ∧ x ≤ acked + kept.length
  · have ho : ackOk acked kept x = true := by simp [ackOk, hx.1, hx.2]
    rw [if_pos ho, if_pos ho, if_pos ho]
    exact ack_ok w ok b kept.length c (x - acked).toNat A win acked x kept hv hk hnb hn ha (by omega) (by omega)
  · have ho : ¬ ackOk acked kept x = true := by simp only [ackOk, Bool.and_eq_true, decide_eq_true_eq]; exact hx
    rw [if_neg ho, if_neg ho, if_neg ho]
    refine (ack_no w b kept.length c A win acked x hv hn ha (by omega)).mono ?_
    rintro e w' ⟨rfl, k, rfl⟩
    exact ⟨rfl, hs.drawn k, grown_drawn w k _⟩

theorem body_any (w : World) (ok : Nat → Prop) (b : Nat) (win acked x : Int) (kept : List (List UInt8))
    (hs : SenderAt w ok b win acked kept) (hn : kept.length ≤ 100) (ha : 0 ≤ acked ∧ acked ≤ 1000000) (hl : ∀ r ∈ kept, r.length ≤ 140737488355328) :
    Calls Try.prog 13 #[.pointer (some ⟨b, 0, none⟩), .int .i64 x] w fun e w' =>
      (∃ A' c', e = .returned (.tuple #[.slice A' (bodyL acked kept x).length c', .bool (bodyOk acked kept x)]) ∧ Sl w' (fun y => w.heap.size ≤ y) (.slice A' (bodyL acked kept x).length c') (bodyL acked kept x)) ∧ Below w.heap.size w w' := by
  obtain ⟨v, hv, hk⟩ := id hs
  obtain ⟨A, c, rfl, r⟩ := id hk
  by_cases hx : acked < x ∧ x ≤ acked + kept.length
  · have ho : bodyOk acked kept x = true := by simp [bodyOk, hx.1, hx.2]
    have hlt : (x - acked - 1).toNat < kept.length := by omega
    have e1 : bodyL acked kept x = kept[(x - acked - 1).toNat] := by unfold bodyL; rw [if_pos ho, List.getD_eq_getElem?_getD, List.getElem?_eq_getElem hlt]; rfl
    rw [ho, e1]
    exact body_ok w ok b kept.length c (x - acked - 1).toNat A win acked x kept hv hk hn ha (by omega) hlt (hl _ (List.getElem_mem hlt))
  · have ho : bodyOk acked kept x = false := by rw [Bool.eq_false_iff]; simp only [bodyOk, ne_eq, Bool.and_eq_true, decide_eq_true_eq]; exact hx
    have e1 : bodyL acked kept x = [] := by unfold bodyL; rw [ho]; rfl
    rw [ho, e1]
    refine (body_no w b kept.length c A win acked x hv hn ha (by omega)).mono ?_
    rintro e w' ⟨rfl, k, rfl⟩
    exact ⟨⟨none, 0, rfl, Sl.nil0 _ _⟩, ⟨rfl, rfl, rfl, Nat.le_refl _, fun _ _ => rfl⟩⟩

theorem due_all (w : World) (ok : Nat → Prop) (b : Nat) (win acked : Int) (kept : List (List UInt8)) (hs : SenderAt w ok b win acked kept) (hn : kept.length ≤ 100) (ha : 0 ≤ acked ∧ acked ≤ 1000000) :
    Calls Try.prog 12 #[.pointer (some ⟨b, 0, none⟩)] w (RetNew w (dueOf acked kept.length)) := by
  obtain ⟨v, hv, hk⟩ := id hs
  obtain ⟨A, c, rfl, r⟩ := id hk
  exact due_any w b kept.length c A win acked hv hn ha

theorem next_all (w : World) (ok : Nat → Prop) (b : Nat) (win acked : Int) (kept : List (List UInt8)) (hs : SenderAt w ok b win acked kept) (hn : kept.length ≤ 100) (ha : 0 ≤ acked ∧ acked ≤ 1000000) :
    Calls Try.prog 14 #[.pointer (some ⟨b, 0, none⟩)] w fun e w' => e = .returned (.int .i64 (acked + kept.length + 1)) ∧ ∃ k, w' = w.drewN k := by
  obtain ⟨v, hv, hk⟩ := id hs
  obtain ⟨A, c, rfl, r⟩ := id hk
  exact next_any w b kept.length c A win acked hv hn ha

theorem new_all (n : Int) (w : World) (hn : -9223372036854775808 ≤ n ∧ n ≤ 9223372036854775807) (ok : Nat → Prop) :
    Calls Try.prog 8 #[.int .i64 n] w fun e w' => e = .returned (.pointer (some ⟨w.heap.size, 0, none⟩)) ∧ SenderAt w' ok w.heap.size (min (max n 1) 64) 0 [] ∧ Below w.heap.size w w' := by
  refine (new_any n w hn).mono ?_
  rintro e w' ⟨rfl, rfl⟩
  exact ⟨rfl, ⟨_, heap_alloc_new w _, Sl.nil0 _ _⟩, (Below.refl _ _).alloc (Nat.le_refl _) _⟩

/-- A copy: at a new block. -/
theorem clone_all (w : World) (ok ok' : Nat → Prop) (b : Nat) (win acked : Int) (kept : List (List UInt8)) (hs : SenderAt w ok b win acked kept) (hm : ∀ x, ok x → x < w.heap.size → ok' x) :
    Calls Try.prog 15 #[.pointer (some ⟨b, 0, none⟩)] w fun e w' => e = .returned (.pointer (some ⟨w.heap.size, 0, none⟩)) ∧
      SenderAt w' ok' w.heap.size win acked kept ∧ Below w.heap.size w w' := by
  obtain ⟨v, hv, hk⟩ := id hs
  obtain ⟨A, c, rfl, r⟩ := id hk
  refine (clone_any w b kept.length c A win acked hv).mono ?_
  rintro e w' ⟨rfl, rfl⟩
  exact ⟨rfl, ⟨_, heap_alloc_new w _, hk.mono fun x hx hl => ⟨hm x hx hl, Below.heap_alloc _ _ _ hl⟩⟩, (Below.refl _ _).alloc (Nat.le_refl _) _⟩
end Go.Proofs.Ythfbjapbfhafbaa
