/- Net: the reference's Send; few; shown. -/
import Derived.Test.YtdjjfpcfclheiaaNetU
set_option linter.unusedSimpArgs false
set_option linter.unusedVariables false
namespace Go.Proofs.Ytdjjfpcfclheiaa
open Go Go.RowKit Go.Proofs Go.Trc Go.Sx
section
variable {w w' : World} {g B : Nat} {xss : List (List UInt8)} {ts : List Int}
set_option maxHeartbeats 8000000 in
theorem rSend (h : RNet w g B xss ts) {ok : Nat → Prop} (hok : ¬ ok g) {A : Option Addr} {n c : Nat} {fs : List FV} (hf : Fs w ok (.slice A n c) fs) (hB : B + fs.length ≤ 1000000) :
    Calls Try.prog 57 #[Np g, .slice A n c] w fun e w' => RNet w' g (B + fs.length) (sendV (xss, ts) fs).1.1 (sendV (xss, ts) fs).1.2 ∧ Fr (fun b => b ∈ [g]) w w' ∧ e = .returned (.int .i64 (sendV (xss, ts) fs).2) := by
  have hn := hf.len
  have lg := h.lt
  refine rnSend_sx _ (fun b => b ∈ [g]) w _ A n c ?_
  refine ⟨fun m i w' => ∃ (k : Nat) (s : NS × Int), i = k ∧ k ≤ fs.length ∧ s = (fs.take k).foldl sendF ((xss, ts), 0) ∧ m = s.2 ∧ 0 ≤ s.2 ∧ s.2 ≤ k ∧ RNet w' g (B + k) s.1.1 s.1.2,
    fun _ i _ => (n - i : Int).toNat, ⟨0, ((xss, ts), 0), rfl, Nat.zero_le _, rfl, rfl, Int.le_refl _, Int.le_refl _, h⟩, ?_⟩
  rintro _ _ w1 f1 ⟨k, s, rfl, hk, hs, rfl, m0, mk, h1⟩
  refine ⟨fun hlt => ?_, fun hge => ?_⟩
  · have hk' : k < fs.length := by omega
    have hf1 : Fs w1 ok (.slice A n c) fs := hf.mono fun b hb hl => ⟨hb, f1.block b hl fun hm => by simp at hm; subst hm; exact hok hb⟩
    obtain ⟨p, o, A', n', c', rfl, _, hc, hr, hb, hmax⟩ := hf1.get k hk'
    have hstep := send_step ((xss, ts), 0) fs k hk'
    rw [← hs] at hstep
    refine ⟨by omega, hlt, p, o, rfl, _, _, _, _, _, _, A', n', c', hc, ?_⟩
    have nb := hb.len
    refine (Frm.refPut_c hb.any).mono ?_
    rintro e w2 ⟨A3, n3, c3, rfl, o3, b2⟩
    have f2 := f1.step b2
    have h2 := h1.below b2
    have hm : Frm.mayF fs[k].kd fs[k].fr fs[k].to fs[k].ep fs[k].sq fs[k].ak n' = mayV fs[k] := by unfold mayV; rw [nb]
    rw [hm] at o3
    have lo1 := f1.size
    have lo2 := b2.size
    refine ⟨A3, n3, c3, _, rfl, ok_ret b2 f1, fun hne => ?_, fun h0 => ?_⟩
    · rw [hm] at hne
      have e2 : sendF s fs[k] = s := by unfold sendF; rw [if_neg hne]
      exact ⟨⟨k + 1, s, by rw [wrap_in (by omega)]; rfl, hk', by rw [hstep, e2], rfl, m0, by omega, h2.more (by omega)⟩, by rw [wrap_in (by omega)]; dsimp only; omega⟩
    rw [hm] at h0
    rw [if_pos h0] at o3
    obtain ⟨Aw, nw, cw, hcw, hvw, hnw⟩ := h2.cells
    refine ⟨g, 0, rfl, Aw, nw, cw, hcw, fun hge => ⟨g, 0, rfl, fun w3 f3 b3 => ?_⟩, fun hl4 => ?_⟩
    · have h3 := h2.below b3
      obtain ⟨w4, hr4, f4, h4⟩ := h3.tick (by omega) 1 (by decide)
      have f04 := f3.trans f4 (fun _ _ h => h) (fun _ _ h => h)
      have e2 : sendF s fs[k] = ((s.1.1, addV s.1.2 1 1), s.2) := by unfold sendF; rw [if_pos h0, if_pos (by omega)]
      exact ⟨_, h3.at_t 1 (by decide), ⟨h2.lt, by simp⟩, g, 0, rfl, w4, hr4, ⟨f04, mild_nil f4.size⟩, ⟨k + 1, ((s.1.1, addV s.1.2 1 1), s.2), by rw [wrap_in (by omega)]; rfl, hk', by rw [hstep, e2], rfl, m0, by show s.2 ≤ ((k + 1 : Nat) : Int); omega, h4⟩, by rw [wrap_in (by omega)]; dsimp only; omega⟩
    intro g26 hg26
    refine ⟨g, 0, rfl, fun w3 f3 b3 lo26 t26 => ?_⟩
    obtain ⟨hh, q1, q2⟩ := hvw
    refine ⟨Aw, nw, cw, cells_below hcw b3, fun t26' => ?_⟩
    obtain ⟨w4, A4, n4, c4, hr4, b4, o4, tl4⟩ := app_empty t26' lo26 (Sl.stk q1 (stk_below b3)) (by omega)
    have F4 : Fr (fun _ => False) w2 w4 := ((Fr.refl _ _).step b3).step b4
    refine ⟨w4, A4, n4, c4, hr4, ok_ret b4 f3, ?_⟩
    intro g35 hg35 w5 f5 b5 lo35 t35
    have lt26 := heap_lt t26
    have lo3 := b3.size
    have lo4 := b4.size
    obtain ⟨w6, A6, n6, c6, hr6, gr6, f26, w7, hr7, f7, h7⟩ := h2.push (w4 := w5) (hs := hh) q2 (own_still o3 (by decide)) (F4.step b5) (o4.below b5) t35 (by omega) (put_small h0)
    have f06 : Fr (fun b => b ∈ [g]) w w6 := f2.trans f26 (fun _ _ h => h) (fun _ _ (h : False) => h.elim)
    have f07 := f06.trans f7 (fun _ _ h => h) (fun _ _ h => h)
    refine ⟨w6, A6, n6, c6, hr6, ⟨f06, grown_mild gr6 fun b hb he => ?_⟩, g, 0, rfl, w7, hr7, ⟨f07, f7.size, fun b hb hl => f7.block b hl fun hm => ?_⟩, g, 0, rfl, fun w8 f8 b8 => ?_⟩
    · have e1 := tl4 b he.symm
      have e2 := tail_lt o4 he.symm
      simp at hb; omega
    · simp at hb hm; omega
    have h8 := h7.below b8
    obtain ⟨w9, hr9, f9, h9⟩ := h8.tick (by omega) 0 (by decide)
    have f09 := f8.trans f9 (fun _ _ h => h) (fun _ _ h => h)
    have e2 : sendF s fs[k] = ((s.1.1 ++ [putW fs[k]], addV s.1.2 0 1), s.2 + 1) := by unfold sendF; rw [if_pos h0, if_neg (by omega)]
    refine ⟨_, h8.at_t 0 (by decide), ⟨h7.lt, by simp⟩, g, 0, rfl, w9, hr9, ⟨f09, f9.size, fun b hb hl => f9.block b hl fun hm => by simp at hb hm; omega⟩, ⟨k + 1, ((s.1.1 ++ [putW fs[k]], addV s.1.2 0 1), s.2 + 1), by rw [wrap_in (by omega)]; rfl, hk', by rw [hstep, e2], by rw [wrap_in (by omega)], ?_, ?_, h9⟩, by rw [wrap_in (x := (k : Int) + 1) (by omega)]; dsimp only; omega⟩
    · show 0 ≤ s.2 + 1; omega
    · show s.2 + 1 ≤ ((k + 1 : Nat) : Int); omega
  · rw [List.take_of_length_le (by omega)] at hs
    have : k = fs.length := by omega
    subst this
    unfold sendV
    rw [← hs]
    exact ⟨h1, f1, rfl⟩
end
/-- At most six frames, of at most a hundred bytes. -/
def cutF (f : FV) : FV := ⟨f.kd, f.fr, f.to, f.ep, f.sq, f.ak, f.bd.take 100⟩
def fewV (fs : List FV) : List FV := (fs.take 6).map cutF
theorem infoF : (Try.prog.info? 47).map (fun i => (i.zero, i.size, i.bytes)) = some (some (.agg #[.int .i64 0, .int .i64 0, .int .i64 0, .int .i64 0, .int .i64 0, .int .i64 0, .slice none 0 0]), 7, 72) := by kernel_rfl
theorem infoB : ∃ i, Try.prog.info? 5 = some i := by
  have hh : (Try.prog.info? 5).map (·.size) = some 1 := by kernel_rfl
  cases hp : Try.prog.info? 5 with
  | none => rw [hp] at hh; cases hh
  | some i => exact ⟨i, rfl⟩
def FewR (w : World) (ok : Nat → Prop) (fs : List FV) (e : Ending) (w' : World) : Prop :=
  ∃ A n c hs, e = .returned (.slice A n c) ∧ OwnF w' w.heap.size TF (.slice A n c) hs ∧ Al (FrOk w ok) hs fs ∧ Below w.heap.size w w'
theorem few_step (fs : List FV) (k : Nat) (h : k < fs.length) : ((fs.take (k + 1)).map cutF) = (fs.take k).map cutF ++ [cutF fs[k]] := by
  rw [List.take_succ_eq_append_getElem h, List.map_append]; rfl
set_option maxHeartbeats 8000000 in
theorem few_c {w : World} {ok : Nat → Prop} {A : Option Addr} {n c : Nat} {fs : List FV} (hf : Fs w ok (.slice A n c) fs) : Calls Try.prog 26 #[.slice A n c] w (FewR w ok (fewV fs)) := by
  have hn := hf.len
  refine netFew_sx _ (fun _ => False) w A n c ?_
  intro g3 hg3
  refine ⟨fun A n c i w' => ∃ (k : Nat) (hs : List Fh), i = k ∧ k ≤ fs.length ∧ k ≤ 6 ∧ OwnF w' w.heap.size TF (.slice A n c) hs ∧ Al (FrOk w ok) hs ((fs.take k).map cutF) ∧ g3 < w'.heap.size ∧ ∀ j, tail (.slice A n c) = some j → j ≠ g3,
    fun _ _ _ i _ => (n - i : Int).toNat, fun w1 f1 b1 lo3 t3 => ⟨0, [], rfl, Nat.zero_le _, by decide, OwnF.cells (α := Fh) [] 0 rfl lo3 t3 (by decide) (by simp), Al.nil, heap_lt t3, fun j hj => by rw [tail_full] at hj; cases hj⟩, ?_⟩
  rintro A2 n2 c2 _ w2 f2 ⟨k, hs, rfl, hk, hk6, o2, a2, l3, tl2⟩
  have n2l := o2.sl.len
  have al := a2.1
  simp only [List.length_map, List.length_take] at al
  have fin : ∀ w', w' = w2 → (k = fs.length ∨ k = 6) → FewR w ok (fewV fs) (.returned (.slice A2 n2 c2)) w' := by
    rintro w' rfl h
    refine ⟨A2, n2, c2, hs, rfl, o2, ?_, fr_below f2⟩
    have e : fewV fs = (fs.take k).map cutF := by
      unfold fewV
      rcases h with rfl | rfl
      · rw [List.take_of_length_le hk6, List.take_of_length_le (Nat.le_refl _)]
      · rfl
    rw [e]; exact a2
  refine ⟨fun hlt => ⟨fun h6 => ?_, fun h6 => fin w2 rfl (.inr (by omega))⟩, fun hge => fin w2 rfl (.inl (by omega))⟩
  have hk' : k < fs.length := by omega
  have hf2 : Fs w2 ok (.slice A n c) fs := hf.mono fun b hb hl => ⟨hb, f2.block b hl fun h => h⟩
  obtain ⟨p, o, A', n', c', rfl, _, hc, hr, hb2, hmax⟩ := hf2.get k hk'
  obtain ⟨hs0, s0, a0⟩ := id hf
  have al0 := a0.1
  -- the body, where the call began
  have hb : Sl w ok (.slice A' n' c') fs[k].bd := by
    obtain ⟨b', o', A1, n1, c1, hA, _, hc', _, hb', _⟩ := hf.get k hk'
    injection hA with hA; injection hA with hA1 hA2
    subst hA1; subst hA2
    have h2 := cells_keep hc' (f2.block _ (cells_lt hc') fun h => h)
    have e1 := h2 6 _ rfl
    have e2 := hc 6 _ rfl
    rw [e1] at e2
    injection e2 with e2
    rw [← e2]; exact hb'
  have nb := hb.len
  have end_ : ∀ (gx g19 : Nat) (A1 : Option Addr) (n1 c1 : Nat) (w4 : World), Sl w ok (.slice A1 n1 c1) (fs[k].bd.take 100) → Fr (fun _ => False) w w4 → OwnF w4 w.heap.size TF (.slice A2 n2 c2) hs → w4.heap[gx]? = some (.cells #[.int .i64 fs[k].kd, .int .i64 fs[k].fr, .int .i64 fs[k].to, .int .i64 fs[k].ep, .int .i64 fs[k].sq, .int .i64 fs[k].ak, .slice A1 n1 c1] 47 (0, 0)) → w2.heap.size ≤ gx → w2.heap.size ≤ g19 → g19 < w4.heap.size →
      ∃ w5 : World, ∃ A24 : Option Addr, ∃ n25 : Nat, ∃ n26 : Nat, (Builtin.append_ #[42, 42] 42 #[(.slice A2 n2 c2), (.slice (some ⟨gx, 0, none⟩) 1 1)]).run Try.prog w4 = .ok (.slice A24 n25 n26) w5 ∧ (Fr (fun _ => False) w w5 ∧ Mild [gx, g19, g3] w4 w5) ∧
      ((∃ (k' : Nat) (hs : List Fh), (IntKind.i64.wrap ((k : Int) + (1 : Int))) = k' ∧ k' ≤ fs.length ∧ k' ≤ 6 ∧ OwnF w5 w.heap.size TF (.slice A24 n25 n26) hs ∧ Al (FrOk w ok) hs ((fs.take k').map cutF) ∧ g3 < w5.heap.size ∧ ∀ j, tail (.slice A24 n25 n26) = some j → j ≠ g3) ∧ (n - (IntKind.i64.wrap ((k : Int) + (1 : Int))) : Int).toNat < (n - (k : Int) : Int).toNat) := by
    intro gx g19 A1 n1 c1 w4 hb1 f4 o4 t4 lx l19 l19'
    obtain ⟨w5, A5, n5, c5, hr5, o5, gr5, tl5⟩ := own_app (P := Try.prog) o4 42 42 _ 72 Try.underlying42 infoF rfl (arg_cells [((fs[k].kd, fs[k].fr, fs[k].to, fs[k].ep, fs[k].sq, fs[k].ak, ⟨A1, n1, c1⟩) : Fh)] 1 rfl t4 (by decide) (fun x hx => by simp only [List.mem_singleton] at hx; subst hx; exact ⟨hr.1, hr.2.1, hr.2.2.1, hr.2.2.2.1, hr.2.2.2.2.1, hr.2.2.2.2.2.1, trivial⟩)) f4.size (by simp; omega) (by simp; omega)
    have lt2 : ∀ j, tail (.slice A2 n2 c2) = some j → j < w2.heap.size := fun j hj => tail_lt o2 hj
    have l4 := f4.size
    refine ⟨w5, A5, n5, c5, hr5, ⟨grown_fr (B := 0) gr5 f4 fun j hj => (tail_base o4 hj).2.1, grown_mild gr5 fun b hb he => ?_⟩, ⟨k + 1, _, by rw [wrap_in (by omega)]; rfl, hk', by omega, o5, ?_, ?_, fun j hj => ?_⟩, by rw [wrap_in (by omega)]; omega⟩
    · have e1 := lt2 b he.symm
      have e2 := tl2 b he.symm
      simp at hb; omega
    · rw [few_step fs k hk']
      exact a2.append (Al.one ⟨_, rfl, hb1⟩)
    · have := gr5.size; omega
    · rcases tl5 j hj with h | h
      · exact tl2 j h
      · omega
  refine ⟨by omega, hlt, p, o, rfl, _, _, _, _, _, _, A', n', c', hc, ?_⟩
  intro g19 hg19
  refine ⟨fun h100 w3 f3 b3 lo19 t19 => ?_, fun h100 g20 hg20 w3 f3 b3 lo20 t20 lo19 t19 => ?_⟩
  · obtain ⟨i, hi⟩ := infoB
    obtain ⟨hrun, hcut⟩ := cut_hi (P := Try.prog) 45 5 Try.underlying45 hi hb (k := 100) (by omega)
    refine ⟨_, _, _, hrun w3, ?_⟩
    intro g23 hg23 w4 f4 q4 lo23 t23
    have l3' := b3.size
    have l4 := q4.size
    exact end_ g23 g19 _ _ _ w4 hcut f4 (OwnF.past (o2.below b3) q4 fun k' hk' hm => by have := Own.lt o2 k' hk'; simp at hm; omega) t23 (by omega) lo19 (by have := heap_lt t19; omega)
  · exact end_ g20 g19 _ _ _ w3 (by rw [List.take_of_length_le (by omega)]; exact hb) f3 (o2.below b3) t20 lo20 lo19 (heap_lt t19)
end Go.Proofs.Ytdjjfpcfclheiaa
