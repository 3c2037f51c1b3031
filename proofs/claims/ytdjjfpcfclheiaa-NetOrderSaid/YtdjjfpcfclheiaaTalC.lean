/- Tallies: contracts of the methods. -/
import Derived.Test.YtdjjfpcfclheiaaTalB
import Derived.Lib.MinMax
set_option linter.unusedSimpArgs false
set_option linter.unusedVariables false
namespace Go.Proofs.Ytdjjfpcfclheiaa
open Go Go.RowKit Go.Proofs Go.Trc Go.Sx

def big : Int := 1099511627776
/-- A tally whose row is laid. -/
structure TalS (w : World) (g a : Nat) (xs : List Int) : Prop where
  hg : w.heap[g]? = some (.cells #[.int .i64 (xs.length : Int), .int .u32 1, .int .i32 0, .int .u32 0, .slice (some ⟨a, 0, none⟩) xs.length xs.length] TT (0, 0))
  ha : w.heap[a]? = some (.cells (xs.map (Value.int .i64)).toArray TE (0, 0))
  len : xs.length ≤ 64
  rng : ∀ x ∈ xs, 0 ≤ x ∧ x ≤ big
/-- A tally: its row is laid, or not yet; F: its blocks. -/
inductive Tal (w : World) (g : Nat) (xs : List Int) : List Nat → Prop
  | no (hx : xs = List.replicate xs.length 0) (hl : xs.length ≤ 64) (hg : w.heap[g]? = some (.cells #[.int .i64 (xs.length : Int), .int .u32 0, .int .i32 0, .int .u32 0, .slice none 0 0] TT (0, 0))) : Tal w g xs [g]
  | yes (a : Nat) (h : TalS w g a xs) : Tal w g xs [g, a]
/-- What may come of blocks F: no other that was there is turned; F' are of F, or new. -/
structure Up (F : List Nat) (w : World) (F' : List Nat) (w' : World) : Prop where
  fr : Fr (fun b => b ∈ F) w w'
  new : ∀ b ∈ F', b ∈ F ∨ w.heap.size ≤ b
theorem Up.refl (F : List Nat) (w : World) : Up F w F w := ⟨Fr.refl _ _, fun _ h => .inl h⟩
theorem Up.trans {F F' F'' : List Nat} {a b c : World} (h : Up F a F' b) (g : Up F' b F'' c) : Up F a F'' c :=
  ⟨h.fr.trans g.fr (fun _ _ h => h) (fun k hk hm => (h.new k hm).resolve_right (by omega)), fun k hk => by
    rcases g.new k hk with h1 | h1
    · exact h.new k h1
    · exact .inr (Nat.le_trans h.fr.size h1)⟩
theorem Up.below {F F' : List Nat} {a b c : World} (h : Up F a F' b) (g : Below b.heap.size b c) : Up F a F' c := ⟨h.fr.step g, h.new⟩
theorem below_up {F : List Nat} {a b : World} (g : Below a.heap.size a b) : Up F a F b := (Up.refl F a).below g
theorem TalS.ne {w : World} {g a : Nat} {xs : List Int} (h : TalS w g a xs) : a ≠ g := fun e => by
  subst e
  have h1 := h.hg
  rw [h.ha] at h1
  injection h1 with h1
  injection h1 with _ h1
  exact absurd h1 (by decide)
theorem TalS.keep {w w' : World} {g a : Nat} {xs : List Int} (h : TalS w g a xs) (h1 : w'.heap[g]? = w.heap[g]?) (h2 : w'.heap[a]? = w.heap[a]?) : TalS w' g a xs := ⟨h1.trans h.hg, h2.trans h.ha, h.len, h.rng⟩
theorem Tal.keep {w w' : World} {g : Nat} {xs : List Int} {F : List Nat} (h : Tal w g xs F) (hk : ∀ b ∈ F, b < w.heap.size → w'.heap[b]? = w.heap[b]?) : Tal w' g xs F := by
  cases h with
  | no hx hl hg => exact .no hx hl ((hk g (by simp) (heap_lt hg)).trans hg)
  | yes a h => exact .yes a (h.keep (hk g (by simp) (heap_lt h.hg)) (hk a (by simp) (heap_lt h.ha)))
theorem Tal.below {w w' : World} {g : Nat} {xs : List Int} {F : List Nat} (h : Tal w g xs F) (b : Below w.heap.size w w') : Tal w' g xs F := h.keep fun k _ hl => b.block k hl
theorem Tal.lt {w : World} {g : Nat} {xs : List Int} {F : List Nat} (h : Tal w g xs F) : ∀ b ∈ F, b < w.heap.size := by
  cases h with
  | no hx hl hg => intro b hb; simp at hb; subst hb; exact heap_lt hg
  | yes a h => intro b hb; simp at hb; rcases hb with rfl | rfl; exact heap_lt h.hg; exact heap_lt h.ha
theorem Tal.len {w : World} {g : Nat} {xs : List Int} {F : List Nat} (h : Tal w g xs F) : xs.length ≤ 64 := by cases h with | no hx hl hg => exact hl | yes a h => exact h.len
theorem Tal.rng {w : World} {g : Nat} {xs : List Int} {F : List Nat} (h : Tal w g xs F) : ∀ x ∈ xs, 0 ≤ x ∧ x ≤ big := by
  cases h with
  | no hx hl hg => intro x hm; rw [hx] at hm; have := List.eq_of_mem_replicate hm; subst this; decide
  | yes a h => exact h.rng
theorem Tal.past {w w' : World} {g : Nat} {xs : List Int} {F G G' : List Nat} (h : Tal w g xs F) (u : Up G w G' w') (hd : ∀ b ∈ F, b ∉ G) : Tal w' g xs F := h.keep fun b hb hl => u.fr.block b hl (hd b hb)
theorem Tal.mem {w : World} {g : Nat} {xs : List Int} {F : List Nat} (h : Tal w g xs F) : g ∈ F := by cases h <;> simp
/-- Two that are apart stay so. -/
theorem apart_up {F F' G : List Nat} {w w' : World} (u : Up F w F' w') (hG : ∀ b ∈ G, b < w.heap.size) (hd : ∀ b ∈ G, b ∉ F) : ∀ b ∈ G, b ∉ F' := fun b hb hm => by
  rcases u.new b hm with h | h
  · exact hd b hb h
  · have := hG b hb; omega

theorem do_done {w : World} {g : Nat} {f : Value} (h : w.cell? ⟨g, 1, none⟩ = some (.int .u32 1)) : Calls Try.prog 58 #[.pointer (some ⟨g, 1, none⟩), f] w fun e w' => e = .returned (.tuple #[]) ∧ w' = w := by
  refine do_sx _ (fun _ => False) w _ f ⟨g, 1, rfl, ?_⟩
  refine (bload_c h).mono ?_
  rintro e w1 ⟨rfl, rfl⟩
  exact ⟨_, rfl, ⟨Fr.refl _ _, mild_nil (Nat.le_refl _)⟩, (fun h => by cases h), fun _ => ⟨rfl, rfl⟩⟩
theorem do_first {w : World} {g g2 k : Nat} (hne : g2 ≠ g) (h2 : w.heap[g2]? = some (.cells #[.pointer (some ⟨g, 0, none⟩)] 24 (0, 0)))
    (hg : w.heap[g]? = some (.cells #[.int .i64 (k : Int), .int .u32 0, .int .i32 0, .int .u32 0, .slice none 0 0] TT (0, 0))) (hk : k ≤ 64) :
    Calls Try.prog 58 #[.pointer (some ⟨g, 1, none⟩), .func (.func 59) #[] #[.pointer (some ⟨g2, 0, none⟩)]] w fun e w' => e = .returned (.tuple #[]) ∧
      ∃ a, w.heap.size ≤ a ∧ w'.heap[a]? = some (.cells ((List.replicate k (0 : Int)).map (Value.int .i64)).toArray TE (0, 0)) ∧
      w'.heap[g]? = some (.cells #[.int .i64 (k : Int), .int .u32 1, .int .i32 0, .int .u32 0, .slice (some ⟨a, 0, none⟩) k k] TT (0, 0)) ∧ Fr (fun b => b ∈ [g]) w w' := by
  refine do_sx _ (fun b => b ∈ [g]) w _ _ ⟨g, 1, rfl, ?_⟩
  refine (bload_c (cell_heap hg)).mono ?_
  rintro e w1 ⟨rfl, rfl⟩
  refine ⟨_, rfl, ⟨Fr.refl _ _, mild_nil (Nat.le_refl _)⟩, fun _ => ?_, fun h => by cases h⟩
  refine (slow_c hne h2 hg hk).mono ?_
  rintro e w2 ⟨rfl, a, la, ha, hg2, f⟩
  exact ⟨rfl, ⟨f, mild_nil f.size⟩, rfl, a, la, ha, hg2, f⟩

def slot (a : Nat) (xs : List Int) (i : Int) : Value := .pointer (if 0 ≤ i ∧ i < (xs.length : Int) then some ⟨a, i.toNat, none⟩ else none)
set_option maxHeartbeats 1000000 in
theorem of_c {w : World} {g : Nat} {xs : List Int} {F : List Nat} (h : Tal w g xs F) (i : Int) :
    Calls Try.prog 39 #[.pointer (some ⟨g, 0, none⟩), .int .i64 i] w fun e w' => ∃ a, TalS w' g a xs ∧ Up F w [g, a] w' ∧ e = .returned (slot a xs i) ∧ ((∃ a, F = [g, a]) → Below w.heap.size w w') := by
  have key : ∀ (g2 : Nat) (w1 : World), Below w.heap.size w w1 → w.heap.size ≤ g2 → w1.heap[g2]? = some (.cells #[.pointer (some ⟨g, 0, none⟩)] 24 (0, 0)) →
      Calls Try.prog 58 #[.pointer (some ⟨g, 1, none⟩), .func (.func 59) #[] #[.pointer (some ⟨g2, 0, none⟩)]] w1 fun e w' => e = .returned (.tuple #[]) ∧ ∃ a, TalS w' g a xs ∧ Up F w [g, a] w' ∧ Mild [g2] w1 w' ∧ ((∃ a, F = [g, a]) → Below w.heap.size w w') := by
    intro g2 w1 b1 lo2 t2
    cases h with
    | no hx hl hg =>
      have lg := heap_lt hg
      have hg1 := (b1.block g lg).trans hg
      refine (do_first (by omega) t2 hg1 hl).mono ?_
      rintro e w' ⟨rfl, a, la, ha, hg', f⟩
      refine ⟨rfl, a, ⟨hg', by rw [← hx] at ha; exact ha, hl, (Tal.no (w := w) (g := g) hx hl hg).rng⟩, ⟨(((Fr.refl _ _).step b1).trans f (fun _ _ h => h) (fun _ _ h => h)), fun b hb => ?_⟩, ⟨f.size, fun b hb hl' => f.block b hl' ?_⟩, fun ⟨_, h⟩ => by simp at h⟩
      · simp at hb
        rcases hb with rfl | rfl
        · simp
        · exact .inr (Nat.le_trans b1.size la)
      · simp at hb; subst hb; simp; omega
    | yes a h =>
      have h1 := (Tal.yes a h).below b1
      have hs : TalS w1 g a xs := h.keep (b1.block g (heap_lt h.hg)) (b1.block a (heap_lt h.ha))
      refine (do_done (cell_heap hs.hg)).mono ?_
      rintro e w' ⟨rfl, rfl⟩
      exact ⟨rfl, a, hs, (below_up b1), ⟨Nat.le_refl _, fun _ _ _ => rfl⟩, fun _ => b1⟩
  refine tof_sx _ (fun b => b ∈ F) w _ i ⟨rfl, ?_⟩
  intro g2 hg2
  refine ⟨g, 0, rfl, fun w1 f1 b1 lo2 t2 => ⟨_, rfl, ?_⟩⟩
  refine (key g2 w1 b1 lo2 t2).mono ?_
  rintro e w2 ⟨rfl, a, hs, u, m, st⟩
  refine ⟨rfl, ⟨u.fr, m⟩, fun hlt => ⟨a, hs, u, ?_, st⟩, fun hge => ⟨g, 0, rfl, _, cells_row hs.hg rfl, fun hle => ⟨a, hs, u, ?_, st⟩, fun hlt => ⟨g, 0, rfl, _, _, _, cells_row hs.hg rfl, hge, hlt, a, 0, rfl, a, hs, u, ?_, st⟩⟩⟩
  · unfold slot; rw [if_neg (by omega)]
  · unfold slot; rw [if_neg (by omega)]
  · unfold slot; rw [if_pos ⟨hge, hlt⟩, Nat.mul_one, Nat.zero_add]; rfl

theorem eql_ptr (W : World) (p : Option Addr) : (binOp .eql 83 (.pointer p) (.pointer none)).run Try.prog W = .ok (.bool p.isNone) W := by
  go_simp
theorem ints_at {xs : List Int} {k : Nat} (h : k < xs.length) : (xs.map (Value.int .i64)).toArray[k]? = some (.int .i64 xs[k]) := by simp [h]
theorem aload_c {w : World} {a k : Nat} {x : Int} (h : w.cell? ⟨a, k, none⟩ = some (.int .i64 x)) : Calls Try.prog 40 #[.pointer (some ⟨a, k, none⟩)] w fun e w' => e = .returned (.int .i64 x) ∧ w' = w := by
  refine aload_sx _ (fun _ => False) w _ ?_
  have hl := run_call_load (P := Try.prog) Try.func60 (by kernel_rfl) (by kernel_rfl) (by kernel_rfl) .i64 (by kernel_rfl) (w := w) (a := ⟨a, k, none⟩) (x := x) h
  exact ⟨a, k, rfl, w, x, ext_run hl, ⟨Fr.refl _ _, mild_nil (Nat.le_refl _)⟩, rfl, rfl⟩
theorem aadd_c {w : World} {a k : Nat} {x n : Int} {C : Array Value} {t : TypeId} (h : w.heap[a]? = some (.cells C t (0, 0))) (hc : C[k]? = some (.int .i64 x)) (hr : -9223372036854775808 ≤ x + n ∧ x + n ≤ 9223372036854775807) :
    Calls Try.prog 41 #[.pointer (some ⟨a, k, none⟩), .int .i64 n] w fun e w' => e = .returned (.int .i64 (x + n)) ∧ w' = w.setCell ⟨a, k, none⟩ (.int .i64 (x + n)) := by
  refine aadd_sx _ (fun b => b ∈ [a]) w _ n ?_
  have hl := run_call_add (P := Try.prog) Try.func61 (by kernel_rfl) (by kernel_rfl) (by kernel_rfl) .i64 (by kernel_rfl) (w := w) (a := ⟨a, k, none⟩) (x := x) (y := n) (s := x + n) ((cell_heap h).trans hc) (frozen_heap h) (by simp [go_sem, wrap_in hr])
  exact ⟨a, k, rfl, _, _, ext_run hl, ⟨fr_setCell, mild_nil fr_setCell.size⟩, rfl, rfl⟩
theorem astore_c {w : World} {a k : Nat} {x : Value} {n : Int} {C : Array Value} {t : TypeId} (h : w.heap[a]? = some (.cells C t (0, 0))) (hc : C[k]? = some x) :
    Calls Try.prog 42 #[.pointer (some ⟨a, k, none⟩), .int .i64 n] w fun e w' => e = .returned (.tuple #[]) ∧ w' = w.setCell ⟨a, k, none⟩ (.int .i64 n) := by
  refine astore_sx _ (fun b => b ∈ [a]) w _ n ?_
  have hl := run_call_store (P := Try.prog) Try.func62 (by kernel_rfl) (by kernel_rfl) (by kernel_rfl) (by kernel_rfl) (w := w) (a := ⟨a, k, none⟩) (k := .i64) (y := n) ((cell_heap h).trans hc) (frozen_heap h)
  exact ⟨a, k, rfl, _, ext_run hl, ⟨fr_setCell, mild_nil fr_setCell.size⟩, rfl, rfl⟩
/-- A number of the row is laid anew. -/
theorem TalS.set {w : World} {g a k : Nat} {xs : List Int} (h : TalS w g a xs) (hk : k < xs.length) (n : Int) (hn : 0 ≤ n ∧ n ≤ big) : TalS (w.setCell ⟨a, k, none⟩ (.int .i64 n)) g a (xs.set k n) := by
  refine ⟨?_, ?_, ?_, ?_⟩
  · rw [List.length_set]
    exact (setCell_other _ h.ne.symm).trans h.hg
  · rw [setCell_at (.int .i64 n) h.ha]
    simp
  · rw [List.length_set]; exact h.len
  · intro x hx
    rcases List.mem_or_eq_of_mem_set hx with hx | rfl
    · exact h.rng x hx
    · exact hn

/-- What is told of a kind. -/
def getV (xs : List Int) (i : Int) : Int := if 0 ≤ i ∧ i < (xs.length : Int) then xs.getD i.toNat 0 else 0
def addE (xs : List Int) (i n : Int) : Int := if ¬ (0 ≤ i ∧ i < (xs.length : Int)) ∨ n < 0 then 1 else if big - getV xs i < n then 3 else 0
def addV (xs : List Int) (i n : Int) : List Int := if addE xs i n = 0 then xs.set i.toNat (getV xs i + n) else xs
theorem getV_at {xs : List Int} {k : Nat} (h : k < xs.length) : getV xs (k : Int) = xs[k] := by unfold getV; rw [if_pos ⟨by omega, by omega⟩, Int.toNat_natCast, List.getD_eq_getElem?_getD, List.getElem?_eq_getElem h]; rfl
theorem getV_rng {xs : List Int} (h : ∀ x ∈ xs, 0 ≤ x ∧ x ≤ big) (i : Int) : 0 ≤ getV xs i ∧ getV xs i ≤ big := by
  unfold getV
  split
  · rename_i hi
    have hk : i.toNat < xs.length := by omega
    rw [List.getD_eq_getElem?_getD, List.getElem?_eq_getElem hk]
    exact h _ (List.getElem_mem hk)
  · decide
theorem addV_len (xs : List Int) (i n : Int) : (addV xs i n).length = xs.length := by unfold addV; split <;> simp
theorem up_new {w : World} {F : List Nat} {w' w'' : World} {g a : Nat} (u : Up F w [g, a] w') (f : Fr (fun b => b ∈ [a]) w' w'') : Up F w [g, a] w'' :=
  u.trans ⟨f.mono fun k _ h => by simp at h ⊢; exact .inr h, fun b hb => .inl hb⟩

theorem get_c {w : World} {g : Nat} {xs : List Int} {F : List Nat} (h : Tal w g xs F) (i : Int) :
    Calls Try.prog 18 #[.pointer (some ⟨g, 0, none⟩), .int .i64 i] w fun e w' => ∃ F', Tal w' g xs F' ∧ Up F w F' w' ∧ e = .returned (.int .i64 (getV xs i)) ∧ (∃ a, F' = [g, a]) ∧ ((∃ a, F = [g, a]) → Below w.heap.size w w') := by
  refine tget_sx _ (fun b => b ∈ F) w _ i ?_
  refine (of_c h i).mono ?_
  rintro e w1 ⟨a, hs, u, rfl, st⟩
  refine ⟨_, rfl, ⟨u.fr, mild_nil u.fr.size⟩, _, eql_ptr w1 _, fun hb => ⟨_, .yes a hs, u, ?_, ⟨a, rfl⟩, st⟩, fun hb => ?_⟩
  · unfold getV
    rw [if_neg]
    intro hi
    rw [if_pos hi] at hb
    cases hb
  · have hi : 0 ≤ i ∧ i < (xs.length : Int) := by
      apply Classical.byContradiction
      intro hi
      rw [if_neg hi] at hb
      cases hb
    obtain ⟨k, rfl⟩ : ∃ k : Nat, i = k := ⟨i.toNat, by omega⟩
    have hk : k < xs.length := by omega
    unfold slot
    rw [if_pos hi, getV_at hk]
    refine (aload_c ((cell_heap hs.ha).trans (ints_at hk))).mono ?_
    rintro e w2 ⟨rfl, rfl⟩
    exact ⟨_, rfl, ⟨u.fr, mild_nil (Nat.le_refl _)⟩, _, .yes a hs, u, rfl, ⟨a, rfl⟩, st⟩

set_option maxHeartbeats 1000000 in
theorem add_c {w : World} {g : Nat} {xs : List Int} {F : List Nat} (h : Tal w g xs F) (i n : Int) (hn : -9223372036854775808 ≤ n ∧ n ≤ 9223372036854775807) :
    Calls Try.prog 14 #[.pointer (some ⟨g, 0, none⟩), .int .i64 i, .int .i64 n] w fun e w' => ∃ F', Tal w' g (addV xs i n) F' ∧ Up F w F' w' ∧ e = .returned (.int .i64 (addE xs i n)) := by
  have no : ∀ {w1 : World} {a : Nat}, TalS w1 g a xs → addE xs i n ≠ 0 → Tal w1 g (addV xs i n) [g, a] := fun hs he => by
    unfold addV; rw [if_neg he]; exact .yes _ hs
  refine tadd_sx _ (fun b => b ∈ F) w _ i n ?_
  refine (of_c h i).mono ?_
  rintro e w1 ⟨a, hs, u, rfl, -⟩
  refine ⟨_, rfl, ⟨u.fr, mild_nil u.fr.size⟩, _, eql_ptr w1 _, fun hb => ?_, fun hb => ⟨fun hlt => ?_, fun hge => ?_⟩⟩
  · have hi : ¬ (0 ≤ i ∧ i < (xs.length : Int)) := fun hi => by rw [if_pos hi] at hb; cases hb
    have he : addE xs i n = 1 := by unfold addE; rw [if_pos (.inl hi)]
    exact ⟨_, no hs (by rw [he]; decide), u, by rw [he]⟩
  · have he : addE xs i n = 1 := by unfold addE; rw [if_pos (.inr hlt)]
    exact ⟨_, no hs (by rw [he]; decide), u, by rw [he]⟩
  · have hi : 0 ≤ i ∧ i < (xs.length : Int) := by
      apply Classical.byContradiction
      intro hi
      rw [if_neg hi] at hb
      cases hb
    obtain ⟨k, rfl⟩ : ∃ k : Nat, i = k := ⟨i.toNat, by omega⟩
    have hk : k < xs.length := by omega
    have hx := hs.rng _ (List.getElem_mem hk)
    have hgv := getV_at hk
    unfold slot
    rw [if_pos hi]
    refine (aload_c ((cell_heap hs.ha).trans (ints_at hk))).mono ?_
    rintro e w2 ⟨rfl, rfl⟩
    unfold big at *
    refine ⟨_, rfl, ⟨u.fr, mild_nil (Nat.le_refl _)⟩, ?_⟩
    rw [wrap_in (by omega)]
    refine ⟨fun hlt => ?_, fun hle => ?_⟩
    · have he : addE xs k n = 3 := by unfold addE; rw [if_neg (by omega), if_pos (by rw [hgv]; unfold big; omega)]
      exact ⟨_, no hs (by rw [he]; decide), u, by rw [he]⟩
    · have he : addE xs k n = 0 := by unfold addE; rw [if_neg (by omega), if_neg (by rw [hgv]; unfold big; omega)]
      refine (aadd_c hs.ha (ints_at hk) (by omega)).mono ?_
      rintro e w3 ⟨rfl, rfl⟩
      have u3 := up_new u (fr_setCell (w := w2) (g := a) (i := k) (v := .int .i64 (xs[k] + n)))
      refine ⟨_, rfl, ⟨u3.fr, mild_nil fr_setCell.size⟩, [g, a], ?_, u3, by rw [he]⟩
      unfold addV
      rw [if_pos he, hgv, Int.toNat_natCast]
      exact .yes a (hs.set hk _ (by unfold big; omega))
end Go.Proofs.Ytdjjfpcfclheiaa
