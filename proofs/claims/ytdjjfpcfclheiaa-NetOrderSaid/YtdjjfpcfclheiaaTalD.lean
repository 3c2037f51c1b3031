/- Tallies: contracts of All, Sum, New, Clone. -/
import Derived.Test.YtdjjfpcfclheiaaTalC
set_option linter.unusedSimpArgs false
set_option linter.unusedVariables false
namespace Go.Trc
open Go Go.RowKit Go.Sx
theorem OwnF.past {α : Type} [Rep α] {w w' : World} {base : Nat} {e : TypeId} {v : Value} {xs : List α} {S : Nat → Prop} (h : OwnF w base e v xs) (f : Fr S w w') (hn : ∀ k, v.ownBlock = some k → ¬ S k) : OwnF w' base e v xs := by
  have hk : ∀ k, v.ownBlock = some k → w'.heap[k]? = w.heap[k]? := fun k hk => f.block k (Own.lt h k hk).2 (hn k hk)
  obtain ⟨cs, ⟨h1, h2⟩, h3, h4⟩ := h
  refine ⟨cs, ⟨h1, ?_⟩, h3, fun j hj => Rep.mono (fun b hb => hb.elim) (h4 j hj)⟩
  rcases h2 with h2 | ⟨g, cap, cur, hv, hb, hg, hr⟩
  · exact .inl h2
  · exact .inr ⟨g, cap, cur, hv, hb, (hk g (by rw [hv]; rfl)).trans hg, hr⟩
/-- .. appended to, with all that is known of it. -/
theorem own_app {α : Type} [Rep α] [Flat α] {P : Program} {w : World} {base : Nat} {e : TypeId} {v v2 : Value} {xs ys : List α} (h : OwnF w base e v xs)
    (t ty : TypeId) (z : Value) (bytes : Nat) (ht : P.underlying t = some (.slice e)) (hinfo : (P.info? e).map (fun i => (i.zero, i.size, i.bytes)) = some (some z, Rep.sz α, bytes)) (hzs : z.cells.size = Rep.sz α)
    {ok2 : Nat → Prop} (h2 : Arg w ok2 v2 ys) (hb : base ≤ w.heap.size) (hbytes : (xs.length + ys.length) * bytes ≤ 140737488355328) (hlen : xs.length + ys.length ≤ 9223372036854775807) :
    ∃ w' A n c, (Builtin.append_ #[t, t] ty #[v, v2]).run P w = .ok (.slice A n c) w' ∧ OwnF w' base e (.slice A n c) (xs ++ ys) ∧ w.grownBy w' (tail v) ∧ ∀ k, tail (.slice A n c) = some k → tail v = some k ∨ k = w.heap.size := by
  obtain ⟨i, hi, hz, hsz, hby⟩ := info_parts hinfo
  obtain ⟨v', w', hr, g1, g2, g3⟩ := own_append' base t ty e i z bytes ht hi hz hsz hby hzs h h2 hb hbytes hlen
  obtain ⟨A, c, rfl, _⟩ := g1.slice
  exact ⟨w', A, _, c, hr, g1, g2, fun k hk => (g3 k hk).imp (fun h => h.symm) id⟩
theorem tail_base {α : Type} [Rep α] {w : World} {base : Nat} {e : TypeId} {v : Value} {xs : List α} (h : OwnF w base e v xs) {k : Nat} (hk : tail v = some k) : v.ownBlock = some k ∧ base ≤ k ∧ k < w.heap.size := by
  rcases tail_own v with h0 | h0
  · rw [h0] at hk; cases hk
  · rw [h0] at hk; exact ⟨hk, Own.lt h k hk⟩
end Go.Trc
namespace Go.Proofs.Ytdjjfpcfclheiaa
open Go Go.RowKit Go.Proofs Go.Trc Go.Sx

theorem grown_up {F F' : List Nat} {w w1 w2 : World} {row : Option Nat} (u : Up F w F' w1) (g : w1.grownBy w2 row) (hr : ∀ k, row = some k → w.heap.size ≤ k) : Up F w F' w2 :=
  ⟨⟨g.os.trans u.fr.os, g.tape.trans u.fr.tape, g.output.trans u.fr.output, Nat.le_trans u.fr.size g.size, fun k hk hn => (g.block k (Nat.lt_of_lt_of_le hk u.fr.size) (fun e => by have := hr k e.symm; omega)).trans (u.fr.block k hk hn)⟩, u.new⟩
theorem Tal.types {w : World} {g : Nat} {xs : List Int} {F : List Nat} (h : Tal w g xs F) : ∀ b ∈ F, ∃ C t, w.heap[b]? = some (.cells C t (0, 0)) ∧ (t = TT ∨ t = TE) := by
  cases h with
  | no hx hl hg => intro b hb; simp at hb; subst hb; exact ⟨_, _, hg, .inl rfl⟩
  | yes a h =>
    intro b hb
    simp at hb
    rcases hb with rfl | rfl
    · exact ⟨_, _, h.hg, .inl rfl⟩
    · exact ⟨_, _, h.ha, .inr rfl⟩
theorem Tal.own_ne {w : World} {g : Nat} {xs : List Int} {F : List Nat} (h : Tal w g xs F) {α : Type} [Rep α] {base : Nat} {e : TypeId} {v : Value} {ys : List α} (o : OwnF w base e v ys) (h1 : e ≠ TT) (h2 : e ≠ TE) : ∀ k, v.ownBlock = some k → ¬ k ∈ F := fun k hk hm => by
  obtain ⟨C, t, hh, ht⟩ := h.types k hm
  refine own_ne' o hh ?_ hk
  rcases ht with rfl | rfl
  · exact h1.symm
  · exact h2.symm
theorem Tal.grown {w w' : World} {g : Nat} {xs : List Int} {F : List Nat} {row : Option Nat} (h : Tal w g xs F) (hg : w.grownBy w' row) (hr : ∀ k, row = some k → k ∉ F) : Tal w' g xs F :=
  h.keep fun b hb hl => hg.block b hl fun e => hr b e.symm hb
theorem Tal.kinds {w : World} {g : Nat} {xs : List Int} {F : List Nat} (h : Tal w g xs F) : CellsAt w g 0 [.int .i64 (xs.length : Int)] := by
  cases h with
  | no hx hl hg => exact cells_row hg rfl
  | yes a h => exact cells_row h.hg rfl

set_option maxHeartbeats 1000000 in
theorem all_c {w : World} {g : Nat} {xs : List Int} {F : List Nat} (h : Tal w g xs F) :
    Calls Try.prog 16 #[.pointer (some ⟨g, 0, none⟩)] w fun e w' => ∃ F' A n c, Tal w' g xs F' ∧ Up F w F' w' ∧ OwnF w' w.heap.size 3 (.slice A n c) xs ∧ e = .returned (.slice A n c) ∧ ((∃ a, F = [g, a]) → (∃ a, F' = [g, a]) ∧ Below w.heap.size w w') ∧ (0 < xs.length → ∃ a, F' = [g, a]) := by
  have hl := h.len
  refine tall_sx _ (fun b => b ∈ F) w _ ⟨g, 0, rfl, _, h.kinds, ?_⟩
  refine ⟨fun A n c i w' => ∃ (k : Nat) (F' : List Nat), i = k ∧ k ≤ xs.length ∧ OwnF w' w.heap.size 3 (.slice A n c) (xs.take k) ∧ Tal w' g xs F' ∧ Up F w F' w' ∧ ((∃ a, F = [g, a]) → (∃ a, F' = [g, a]) ∧ Below w.heap.size w w') ∧ (0 < k → ∃ a, F' = [g, a]), fun _ _ _ i _ => (xs.length - i : Int).toNat, ⟨0, F, rfl, Nat.zero_le _, OwnF.nil _ _ _, h, Up.refl _ _, fun h => ⟨h, Below.refl _ _⟩, fun h => absurd h (by omega)⟩, ?_⟩
  rintro A4 n5 n6 _ w1 f1 ⟨k, F1, rfl, hk, o1, h1, u1, st1, sh1⟩
  refine ⟨fun hlt => ?_, fun hge => ?_⟩
  · have hk' : k < xs.length := by omega
    refine (get_c h1 (k : Int)).mono ?_
    rintro e w2 ⟨F2, h2, u2, rfl, sh2, st2⟩
    rw [getV_at hk']
    have o2 := OwnF.past o1 u2.fr (h1.own_ne o1 (by decide) (by decide))
    have U2 := u1.trans u2
    refine ⟨_, rfl, ⟨U2.fr, mild_nil u2.fr.size⟩, ?_⟩
    intro g9 hg9 w3 f3 b3 lo9 t9
    have o3 := o2.below b3
    have h3 := h2.below b3
    have lt : (xs.take k).length = k := by simp; omega
    obtain ⟨w4, A, n, c, hr, o4, gr, tl⟩ := own_app o3 30 30 (.int .i64 0) 8 Try.underlying30 (by kernel_rfl) rfl (arg_cells [xs[k]] 1 rfl t9 (by decide) (by intro x hx; simp at hx; subst hx; have := h.rng _ (List.getElem_mem hk'); unfold big at this; exact ⟨by omega, by omega⟩))
      (Nat.le_trans U2.fr.size b3.size) (by rw [lt]; simp; omega) (by rw [lt]; simp; omega)
    have hnt : ∀ k', tail (.slice A4 n5 n6) = some k' → w.heap.size ≤ k' := fun k' hk' => (tail_base o3 hk').2.1
    have U4 := grown_up (U2.below b3) gr hnt
    refine ⟨w4, A, n, c, hr, ⟨U4.fr, gr.size, fun b hb hl' => gr.block b hl' fun e => ?_⟩, ⟨k + 1, F2, by rw [wrap_in (by omega)]; rfl, hk', ?_, h3.grown gr (fun k' hk' hm => h3.own_ne o3 (by decide) (by decide) k' (tail_base o3 hk').1 hm), U4, fun hF => ⟨sh2, ((((st1 hF).2.trans ((st2 (st1 hF).1).mono (st1 hF).2.size)).trans (b3.mono U2.fr.size)).grown gr (Nat.le_trans U2.fr.size b3.size) hnt)⟩, fun _ => sh2⟩, by rw [wrap_in (by omega)]; dsimp only; omega⟩
    · simp at hb; subst hb
      have := (tail_base o2 e.symm).2.2
      omega
    · rw [List.take_succ_eq_append_getElem hk']; exact o4
  · rw [List.take_of_length_le (by omega)] at o1
    exact ⟨F1, A4, n5, n6, h1, u1, o1, rfl, st1, fun h => sh1 (by omega)⟩

theorem sum_take (xs : List Int) (k : Nat) (h : k < xs.length) : (xs.take (k + 1)).sum = (xs.take k).sum + xs[k] := by
  rw [List.take_succ_eq_append_getElem h, List.sum_append]; simp
theorem sum_rng : ∀ {xs : List Int}, (∀ x ∈ xs, 0 ≤ x ∧ x ≤ big) → 0 ≤ xs.sum ∧ xs.sum ≤ xs.length * big
  | [], _ => by simp
  | x :: xs, h => by
    have h1 := h x (by simp)
    have h2 := sum_rng (xs := xs) fun y hy => h y (List.mem_cons_of_mem _ hy)
    simp only [List.sum_cons, List.length_cons]
    unfold big at *
    omega
theorem sum_take_rng {xs : List Int} (h : ∀ x ∈ xs, 0 ≤ x ∧ x ≤ big) (hl : xs.length ≤ 64) (k : Nat) : 0 ≤ (xs.take k).sum ∧ (xs.take k).sum ≤ 70368744177664 := by
  have h1 := sum_rng (xs := xs.take k) fun x hx => h x (List.mem_of_mem_take hx)
  have h2 : (xs.take k).length ≤ 64 := by simp; omega
  unfold big at h1
  omega
set_option maxHeartbeats 1000000 in
theorem tsum_c {w : World} {g : Nat} {xs : List Int} {F : List Nat} (h : Tal w g xs F) :
    Calls Try.prog 17 #[.pointer (some ⟨g, 0, none⟩)] w fun e w' => ∃ F', Tal w' g xs F' ∧ Up F w F' w' ∧ e = .returned (.int .i64 xs.sum) ∧ ((∃ a, F = [g, a]) → (∃ a, F' = [g, a]) ∧ Below w.heap.size w w') := by
  refine tsum_sx _ (fun b => b ∈ F) w _ ?_
  refine (all_c h).mono ?_
  rintro e w1 ⟨F1, A, n, c, h1, u1, o1, rfl, st, -⟩
  have s1 := o1.sl
  have hn := s1.len
  have hlen := h.len
  refine ⟨A, n, c, rfl, ⟨u1.fr, mild_nil u1.fr.size⟩, ?_⟩
  refine ⟨fun s i w' => ∃ k : Nat, i = k ∧ k ≤ xs.length ∧ s = (xs.take k).sum ∧ w' = w1, fun _ i _ => (n - i : Int).toNat, ⟨0, rfl, Nat.zero_le _, rfl, rfl⟩, ?_⟩
  rintro _ _ w2 f2 ⟨k, rfl, hk, rfl, rfl⟩
  refine ⟨fun hlt => ?_, fun hge => ⟨F1, h1, u1, by rw [List.take_of_length_le (by omega)], st⟩⟩
  have hk' : k < xs.length := by omega
  obtain ⟨b, o, rfl, _, _, _, hc⟩ := Sl.cells s1 k hk'
  have r1 := sum_take_rng h.rng h.len k
  have r2 := h.rng _ (List.getElem_mem hk')
  unfold big at r2
  refine ⟨by omega, hlt, b, o, rfl, _, hc, ⟨k + 1, by rw [wrap_in (by omega)]; rfl, hk', by rw [wrap_in (by omega), sum_take xs k hk'], rfl⟩, by rw [wrap_in (x := (k : Int) + 1) (by omega)]; dsimp only; omega⟩

theorem run_max2 {P : Program} (w : World) (ts : Array TypeId) (t : TypeId) (a b : Int) : (Builtin.max_ ts t #[.int .i64 a, .int .i64 b]).run P w = .ok (.int .i64 (max a b)) w := by
  have e : (if a < b then b else a) = max a b := by rw [Int.max_def]; split <;> split <;> omega
  simp [Builtin.max_, Builtin.max2, e]
theorem run_min2 {P : Program} (w : World) (ts : Array TypeId) (t : TypeId) (a b : Int) : (Builtin.min_ ts t #[.int .i64 a, .int .i64 b]).run P w = .ok (.int .i64 (min a b)) w := by
  have e : (if b < a then b else a) = min a b := by rw [Int.min_def]; split <;> split <;> omega
  simp [Builtin.min_, Builtin.min2, e]
def kindsV (k : Int) : Nat := (min (max k 0) 64).toNat
theorem new_c (w : World) (k : Int) : Calls Try.prog 13 #[.int .i64 k] w fun e w' => ∃ g, w.heap.size ≤ g ∧ Tal w' g (List.replicate (kindsV k) 0) [g] ∧ Below w.heap.size w w' ∧ e = .returned (.pointer (some ⟨g, 0, none⟩)) := by
  refine tnew_sx _ (fun _ => False) w k ⟨_, run_max2 w _ _ _ _, _, run_min2 w _ _ _ _, ?_⟩
  intro g hg w1 f1 b1 lo t
  refine ⟨g, hg, .no (by simp) (by simp [kindsV]; omega) ?_, b1, rfl⟩
  rw [t]
  simp [kindsV]
  omega
theorem up_aside {F F2 F' F'' : List Nat} {w w3 w5 : World} (u : Up F w F2 w3) (v : Up F' w3 F'' w5) (h : ∀ b ∈ F', w.heap.size ≤ b) : Up F w F2 w5 :=
  ⟨u.fr.trans v.fr (fun _ _ h => h) (fun k hk hm => by have := h k hm; omega), u.new⟩
theorem up_ge {F F' : List Nat} {w w' : World} {B : Nat} (u : Up F w F' w') (h : ∀ b ∈ F, B ≤ b) (hB : B ≤ w.heap.size) : ∀ b ∈ F', B ≤ b := fun b hb => by
  rcases u.new b hb with h1 | h1
  · exact h b h1
  · omega
theorem up_fr {F F' : List Nat} {w0 w w' : World} (f : Fr (fun _ => False) w0 w) (u : Up F w F' w') (h : ∀ b ∈ F, w0.heap.size ≤ b) : Fr (fun _ => False) w0 w' :=
  f.trans u.fr (fun _ _ h => h) (fun k hk hm => by have := h k hm; omega)
theorem up_set {w : World} {g a k : Nat} {v : Value} : Up [g, a] w [g, a] (w.setCell ⟨a, k, none⟩ v) :=
  ⟨(fr_setCell (w := w) (g := a) (i := k) (v := v)).mono fun k _ h => by simp at h ⊢; exact .inr h, fun b hb => .inl hb⟩
theorem fill_set (xs : List Int) (k : Nat) (h : k < xs.length) : (xs.take k ++ List.replicate (xs.length - k) 0).set k xs[k] = xs.take (k + 1) ++ List.replicate (xs.length - (k + 1)) 0 := by
  have hl : (xs.take k).length = k := by simp; omega
  rw [List.set_append_right _ _ (by omega), hl, Nat.sub_self, show xs.length - k = (xs.length - (k + 1)) + 1 by omega, List.replicate_succ]
  rw [List.take_succ_eq_append_getElem h]
  simp only [List.set_cons_zero, List.append_assoc, List.singleton_append]

set_option maxHeartbeats 2000000 in
theorem clone_c {w : World} {g : Nat} {xs : List Int} {F : List Nat} (h : Tal w g xs F) :
    Calls Try.prog 20 #[.pointer (some ⟨g, 0, none⟩)] w fun e w' => ∃ g' F1 F2, w.heap.size ≤ g' ∧ Tal w' g xs F1 ∧ Tal w' g' xs F2 ∧ Up F w F1 w' ∧ (∀ b ∈ F2, w.heap.size ≤ b) ∧ (∀ b ∈ F2, b ∉ F1) ∧ e = .returned (.pointer (some ⟨g', 0, none⟩)) := by
  have hl := h.len
  have hkv : kindsV (xs.length : Int) = xs.length := by unfold kindsV; omega
  refine tclone_sx _ (fun b => b ∈ F) w _ ⟨g, 0, rfl, _, h.kinds, ?_⟩
  refine (new_c w _).mono ?_
  rintro e w1 ⟨g', hg', h1', b1, rfl⟩
  rw [hkv] at h1'
  refine ⟨_, rfl, ⟨(below_up b1 : Up F w F w1).fr, mild_nil b1.size⟩, ?_⟩
  refine (all_c (h.below b1)).mono ?_
  rintro e w2 ⟨F2, A, n, c, h2, u2, o2, rfl, -⟩
  have U2 : Up F w F2 w2 := (below_up b1).trans u2
  have hF := h.lt
  have d0 : ∀ b ∈ [g'], b ∉ F := fun b hb hm => by simp at hb; subst hb; have := hF b hm; omega
  have h2' := h1'.past u2 d0
  have hn := o2.sl.len
  refine ⟨A, n, c, rfl, ⟨U2.fr, mild_nil u2.fr.size⟩, ?_⟩
  refine ⟨fun i w3 => ∃ (k : Nat) (F' : List Nat), i = k ∧ k ≤ xs.length ∧ Tal w3 g' (xs.take k ++ List.replicate (xs.length - k) 0) F' ∧ Tal w3 g xs F2 ∧ Up F w F2 w3 ∧ (∀ b ∈ F', w.heap.size ≤ b) ∧ (∀ b ∈ F2, b ∉ F') ∧ OwnF w3 w1.heap.size 3 (.slice A n c) xs,
    fun i _ => (n - i : Int).toNat, ⟨0, [g'], rfl, Nat.zero_le _, by simpa using h2', h2, U2, by intro b hb; simp at hb; subst hb; exact hg', fun b hb hm => ?_, o2⟩, ?_⟩
  · simp at hm; subst hm
    exact apart_up u2 (fun b hb => h1'.lt b hb) d0 b (by simp) hb
  rintro _ w3 f3 ⟨k, F', rfl, hk, h3', h3, U3, ge3, d3, o3⟩
  refine ⟨fun hlt => ?_, fun hge => ?_⟩
  · have hk' : k < xs.length := by omega
    obtain ⟨b, o, rfl, _, _, _, hc⟩ := Sl.cells o3.sl k hk'
    refine ⟨by omega, hlt, b, o, rfl, _, hc, ?_⟩
    refine (of_c h3' (k : Int)).mono ?_
    rintro e w4 ⟨a', hs, u4, rfl, -⟩
    have hyl : (xs.take k ++ List.replicate (xs.length - k) (0 : Int)).length = xs.length := by simp; omega
    have U4 := up_aside U3 u4 ge3
    have hslot : slot a' (xs.take k ++ List.replicate (xs.length - k) 0) (k : Int) = .pointer (some ⟨a', k, none⟩) := by
      unfold slot; rw [if_pos ⟨by omega, by omega⟩, Int.toNat_natCast]
    rw [hslot]
    refine ⟨_, rfl, ⟨U4.fr, mild_nil u4.fr.size⟩, ?_⟩
    refine (astore_c hs.ha (ints_at (k := k) (by omega))).mono ?_
    rintro e w5 ⟨rfl, rfl⟩
    have hs5 := hs.set (k := k) (by omega) xs[k] (h.rng _ (List.getElem_mem hk'))
    have u5 := u4.trans (up_set (w := w4) (g := g') (a := a') (k := k) (v := .int .i64 xs[k]))
    have U5 := up_aside U3 u5 ge3
    refine ⟨rfl, ⟨U5.fr, mild_nil fr_setCell.size⟩, ⟨k + 1, [g', a'], by rw [wrap_in (by omega)]; rfl, hk', .yes a' ?_, h3.past u5 d3, U5, up_ge u5 ge3 U3.fr.size, apart_up u5 h3.lt d3, OwnF.past o3 u5.fr (h3'.own_ne o3 (by decide) (by decide))⟩, by rw [wrap_in (by omega)]; dsimp only; omega⟩
    rw [fill_set xs k hk'] at hs5
    exact hs5
  · have hkx : k = xs.length := by omega
    subst hkx
    rw [List.take_of_length_le (Nat.le_refl _), Nat.sub_self] at h3'
    exact ⟨g', F2, F', hg', h3, by simpa using h3', U3, ge3, fun b hb hm => d3 b hm hb, rfl⟩
theorem take_eq_step' {xs ys : List Int} {k : Nat} (h1 : k < xs.length) (h2 : k < ys.length) (h : xs.take k = ys.take k) (e : xs[k] = ys[k]) : xs.take (k + 1) = ys.take (k + 1) := by
  rw [List.take_succ_eq_append_getElem h1, List.take_succ_eq_append_getElem h2, h, e]
set_option maxHeartbeats 1000000 in
theorem ints_c {w : World} {ok ok' : Nat → Prop} {A A' : Option Addr} {n c n' c' : Nat} {xs ys : List Int} (h : Sl w ok (.slice A n c) xs) (h' : Sl w ok' (.slice A' n' c') ys) :
    Calls Try.prog 15 #[.slice A n c, .slice A' n' c'] w (Ret (.bool (decide (xs = ys))) w) := by
  have hn := h.len
  have hn' := h'.len
  have hle := h.le
  refine ints_sx _ (fun _ => False) w A n c A' n' c' ?_
  refine ⟨fun hne => ret_leaf (Fr.refl _ _) (by rw [decide_eq_false (fun e => hne (by rw [hn, hn', e]))]), fun he => ?_⟩
  refine ⟨fun _ i _ => ∃ k : Nat, i = k ∧ k ≤ xs.length ∧ xs.take k = ys.take k, fun _ i _ => (n - i : Int).toNat, ⟨0, rfl, Nat.zero_le _, rfl⟩, ?_⟩
  rintro b6 _ w1 f1 ⟨k, rfl, hk, he'⟩
  refine ⟨fun hlt => ?_, fun hge => ?_⟩
  · have kx : k < xs.length := by omega
    have ky : k < ys.length := by omega
    obtain ⟨b, o, rfl, _, hb, hw, _⟩ := Sl.cells h k kx
    obtain ⟨b', o', rfl, _, hb', hw', _⟩ := Sl.cells h' k ky
    refine ⟨by omega, hlt, b, o, rfl, fun w2 f2 b2 => ⟨_, (h.below (fr_below f2)).at_k k kx, ⟨Nat.lt_of_lt_of_le hb f1.size, by simp⟩, by omega, by omega, b', o', rfl, _, (h'.below (fr_below f2)).at_k k ky, ⟨Nat.lt_of_lt_of_le hb' f1.size, by simp⟩,
      fun hb => ret_leaf f2 ?_, fun hb => ⟨⟨k + 1, by rw [wrap_in (by omega)]; rfl, by omega, take_eq_step' kx ky he' hb⟩, by rw [wrap_in (by omega)]; dsimp only; omega⟩⟩⟩
    rw [decide_eq_false (fun e => hb (by subst e; rfl))]
  · refine ret_leaf f1 ?_
    rw [List.take_of_length_le (by omega), List.take_of_length_le (by omega)] at he'
    rw [decide_eq_true he']
theorem neq_ptr (W : World) (p : Option Addr) : (binOp .neq 24 (.pointer p) (.pointer none)).run Try.prog W = .ok (.bool (!p.isNone)) W := by
  go_simp
set_option maxHeartbeats 1000000 in
theorem tshown_c (w : World) : Calls Try.prog 12 #[] w (Ret (.bool true) w) := by
  refine tshown_sx _ (fun _ => False) w ?_
  refine (new_c w 2).mono ?_
  rintro e w1 ⟨g, hg, h1, b1, rfl⟩
  have f1 := (Fr.refl (fun _ => False) w).step b1
  have ge1 : ∀ b ∈ [g], w.heap.size ≤ b := by intro b hb; simp at hb; subst hb; exact hg
  refine ⟨_, rfl, ok_ret b1 (Fr.refl _ _), _, neq_ptr w1 _, fun _ => ?_, fun h => by cases h⟩
  have e1 : addE (List.replicate (kindsV 2) 0) 1 3 = 0 := by decide
  have e2 : addV (List.replicate (kindsV 2) 0) 1 3 = [0, 3] := by decide
  refine (add_c h1 1 3 (by omega)).mono ?_
  rintro e w2 ⟨F2, h2, u2, rfl⟩
  rw [e2] at h2
  rw [e1]
  have f2 := up_fr f1 u2 ge1
  have ge2 := up_ge u2 ge1 f1.size
  refine ⟨_, rfl, ⟨f2, mild_nil u2.fr.size⟩, fun _ => ?_, fun h => absurd rfl h⟩
  refine (add_c h2 2 1 (by omega)).mono ?_
  rintro e w3 ⟨F3, h3, u3, rfl⟩
  rw [show addV [0, 3] 2 1 = [0, 3] by decide] at h3
  rw [show addE [0, 3] 2 1 = 1 by decide]
  have f3 := up_fr f2 u3 ge2
  have ge3 := up_ge u3 ge2 f2.size
  refine ⟨_, rfl, ⟨f3, mild_nil u3.fr.size⟩, fun _ => ?_, fun h => absurd rfl h⟩
  refine (tsum_c h3).mono ?_
  rintro e w4 ⟨F4, h4, u4, rfl, -⟩
  have f4 := up_fr f3 u4 ge3
  have ge4 := up_ge u4 ge3 f3.size
  refine ⟨_, rfl, ⟨f4, mild_nil u4.fr.size⟩, fun _ => ?_, fun h => absurd (by decide) h⟩
  refine (get_c h4 1).mono ?_
  rintro e w5 ⟨F5, h5, u5, rfl, -⟩
  have f5 := up_fr f4 u5 ge4
  refine ⟨_, rfl, ⟨f5, mild_nil u5.fr.size⟩, ?_, fr_below f5⟩
  rfl
end Go.Proofs.Ytdjjfpcfclheiaa
