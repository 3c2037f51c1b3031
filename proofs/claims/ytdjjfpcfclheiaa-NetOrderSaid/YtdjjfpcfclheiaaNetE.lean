/- Net: contracts of Send, Tally, Clone, New. -/
import Derived.Test.YtdjjfpcfclheiaaNetD
set_option linter.unusedSimpArgs false
set_option linter.unusedVariables false
namespace Go.Proofs.Ytdjjfpcfclheiaa
open Go Go.RowKit Go.Proofs Go.Trc Go.Sx

/-- A frame as it lies; what it stands for. -/
abbrev Fh := Int × Int × Int × Int × Int × Int × Hd
def FrOk (w : World) (ok : Nat → Prop) (h : Fh) (f : FV) : Prop := ∃ hd : Hd, h = (f.kd, f.fr, f.to, f.ep, f.sq, f.ak, hd) ∧ Sl w ok hd.v f.bd
def Fs (w : World) (ok : Nat → Prop) (v : Value) (fs : List FV) : Prop := ∃ hs : List Fh, Sl w ok v hs ∧ Al (FrOk w ok) hs fs
theorem FrOk.mono {w w' : World} {ok ok' : Nat → Prop} {h : Fh} {f : FV} (hf : FrOk w ok h f) (m : ∀ b, ok b → b < w.heap.size → ok' b ∧ w'.heap[b]? = w.heap[b]?) : FrOk w' ok' h f := by
  obtain ⟨hd, e, s⟩ := hf
  exact ⟨hd, e, s.mono m⟩
theorem Fs.mono {w w' : World} {ok ok' : Nat → Prop} {v : Value} {fs : List FV} (hf : Fs w ok v fs) (m : ∀ b, ok b → b < w.heap.size → ok' b ∧ w'.heap[b]? = w.heap[b]?) : Fs w' ok' v fs := by
  obtain ⟨hs, s, a⟩ := hf
  exact ⟨hs, s.mono m, Al.mono a fun _ _ h => h.mono m⟩
theorem Fs.len {w : World} {ok : Nat → Prop} {A : Option Addr} {n c : Nat} {fs : List FV} (h : Fs w ok (.slice A n c) fs) : n = fs.length := by
  obtain ⟨hs, s, a⟩ := h
  rw [← a.1]; exact s.len
theorem Fs.get {w : World} {ok : Nat → Prop} {A : Option Addr} {n c : Nat} {fs : List FV} (h : Fs w ok (.slice A n c) fs) (k : Nat) (hk : k < fs.length) :
    ∃ p o A' n' c', A = some ⟨p, o, none⟩ ∧ ok p ∧ CellsAt w p (o + k * 7 + 0) [.int .i64 fs[k].kd, .int .i64 fs[k].fr, .int .i64 fs[k].to, .int .i64 fs[k].ep, .int .i64 fs[k].sq, .int .i64 fs[k].ak, .slice A' n' c'] ∧
      Fixed.wf ((fs[k].kd, fs[k].fr, fs[k].to, fs[k].ep, fs[k].sq, fs[k].ak, ⟨A', n', c'⟩) : Fh) ∧ Sl w ok (.slice A' n' c') fs[k].bd ∧ (n : Int) ≤ 9223372036854775807 := by
  obtain ⟨hs, s, a⟩ := h
  have hl := a.1
  obtain ⟨p, o, rfl, hp, _, hw, hc⟩ := Sl.cells s k (by omega)
  obtain ⟨hd, e, s'⟩ := a.2 k (by omega) hk
  rw [e] at hc hw
  have := s.len_eq
  exact ⟨p, o, _, _, _, rfl, hp, hc, hw, s', by omega⟩
theorem wf_put {f : FV} {hd : Hd} (h : Fixed.wf ((f.kd, f.fr, f.to, f.ep, f.sq, f.ak, hd) : Fh)) : ∀ v ∈ [f.ep, f.sq, f.ak], -9223372036854775808 ≤ v ∧ v ≤ 9223372036854775807 := by
  obtain ⟨h1, h2, h3, h4, h5, h6, _⟩ := h
  intro v hv
  simp only [List.mem_cons, List.not_mem_nil, or_false] at hv
  rcases hv with rfl | rfl | rfl
  · exact h4
  · exact h5
  · exact h6
theorem send_step (s : NS × Int) (fs : List FV) (k : Nat) (h : k < fs.length) : (fs.take (k + 1)).foldl sendF s = sendF ((fs.take k).foldl sendF s) fs[k] := by
  rw [List.take_succ_eq_append_getElem h, List.foldl_append]; rfl
section
variable {w : World} {g t : Nat} {xss : List (List UInt8)} {ts : List Int} {Ft : List Nat}
theorem put_small {f : FV} (h : mayV f = 0) : (putW f).length ≤ 100000 := by
  have := (Frm.may_facts h).2.2.2
  unfold putW
  rw [Frm.put_len]; omega
set_option maxHeartbeats 8000000 in
theorem send_c (h : NetS w g t xss ts Ft) {ok : Nat → Prop} (hok : ∀ b ∈ g :: Ft, ¬ ok b) {A : Option Addr} {n c : Nat} {fs : List FV} (hf : Fs w ok (.slice A n c) fs) :
    Calls Try.prog 27 #[.pointer (some ⟨g, 0, none⟩), .slice A n c] w fun e w' => ∃ Ft', NetS w' g t (sendV (xss, ts) fs).1.1 (sendV (xss, ts) fs).1.2 Ft' ∧ Up (g :: Ft) w (g :: Ft') w' ∧ e = .returned (.int .i64 (sendV (xss, ts) fs).2) := by
  have hn := hf.len
  have hF := h.lt
  refine netSend_sx _ (fun b => b ∈ g :: Ft) w _ A n c ?_
  refine ⟨fun m i w' => ∃ (k : Nat) (s : NS × Int) (F1 : List Nat), i = k ∧ k ≤ fs.length ∧ s = (fs.take k).foldl sendF ((xss, ts), 0) ∧ m = s.2 ∧ 0 ≤ s.2 ∧ s.2 ≤ k ∧ NetS w' g t s.1.1 s.1.2 F1 ∧ Up (g :: Ft) w (g :: F1) w',
    fun _ i _ => (n - i : Int).toNat, ⟨0, ((xss, ts), 0), Ft, rfl, Nat.zero_le _, rfl, rfl, Int.le_refl _, Int.le_refl _, h, Up.refl _ _⟩, ?_⟩
  rintro _ _ w1 f1 ⟨k, s, F1, rfl, hk, hs, rfl, m0, mk, h1, u1⟩
  refine ⟨fun hlt => ?_, fun hge => ⟨F1, ?_⟩⟩
  · have hk' : k < fs.length := by omega
    have hf1 : Fs w1 ok (.slice A n c) fs := hf.mono fun b hb hl => ⟨hb, u1.fr.block b hl fun hm => hok b hm hb⟩
    obtain ⟨p, o, A', n', c', rfl, _, hc, hr, hb, hmax⟩ := hf1.get k hk'
    have hstep := send_step ((xss, ts), 0) fs k hk'
    rw [← hs] at hstep
    refine ⟨by omega, hlt, p, o, rfl, _, _, _, _, _, _, A', n', c', hc, ?_⟩
    intro g17 hg17 w2 f2 b2 lo17 t17
    have nb := hb.len
    refine (Frm.put_c (wf_put hr) (hb.below b2).any).mono ?_
    rintro e w3 ⟨A3, n3, c3, rfl, o3, b3⟩
    have f3 := f2.step b3
    have B3 := b2.trans (b3.mono b2.size)
    have h3 := h1.below B3
    have u3 := u1.below B3
    have hm : Frm.mayF fs[k].kd fs[k].fr fs[k].to fs[k].ep fs[k].sq fs[k].ak n' = mayV fs[k] := by unfold mayV; rw [nb]
    rw [hm] at o3
    have h1lt := h1.lt
    have lo3 := B3.size
    refine ⟨A3, n3, c3, _, rfl, ok_ret b3 f2, fun hne => ?_, fun h0 => ?_⟩
    · rw [hm] at hne
      have e2 : sendF s fs[k] = s := by unfold sendF; rw [if_neg hne]
      refine ⟨⟨k + 1, s, F1, by rw [wrap_in (by omega)]; rfl, hk', by rw [hstep, e2], rfl, m0, by omega, h3, u3⟩, by rw [wrap_in (by omega)]; dsimp only; omega⟩
    rw [hm] at h0
    rw [if_pos h0] at o3
    obtain ⟨Aw, nw, cw, hcw, hvw, hnw⟩ := h3.up.cells
    have gx : g < w1.heap.size := h1lt g (by simp)
    refine ⟨g, 0, rfl, Aw, nw, cw, hcw, fun hge => ?_, fun hl4 => ⟨g, 0, rfl, Aw, nw, cw, hcw, ?_⟩⟩
    · refine (note_c h3 1).mono ?_
      rintro e w4 ⟨F4, h4, u4, rfl⟩
      have u4' := u3.trans (up_cons (g := g) u4)
      have e2 : sendF s fs[k] = ((s.1.1, addV s.1.2 1 1), s.2) := by unfold sendF; rw [if_pos h0, if_pos (by omega)]
      refine ⟨rfl, ⟨u4'.fr, mild_up u4 fun b hb hm => ?_⟩, ⟨k + 1, ((s.1.1, addV s.1.2 1 1), s.2), F4, by rw [wrap_in (by omega)]; rfl, hk', by rw [hstep, e2], rfl, m0, ?_, h4, u4'⟩, by rw [wrap_in (by omega)]; dsimp only; omega⟩
      · simp at hb; have := h1.tal.lt b hm; omega
      · show s.2 ≤ ((k + 1 : Nat) : Int); omega
    obtain ⟨hh, q1, q2⟩ := hvw
    refine (clip_c q1).mono ?_
    rintro e w4 ⟨rfl, rfl, q1'⟩
    refine ⟨_, _, _, rfl, ⟨f3, mild_nil (Nat.le_refl _) |>.1, fun _ _ _ => rfl⟩, ?_⟩
    intro g35 hg35 w5 f5 b5 lo35 t35
    have k5 := stk_below b5
    obtain ⟨w6, A6, n6, c6, hr6, b6, w7, hr7, f7, h7⟩ := (h3.below b5).push (Sl.stk q1' k5) (q2.stk k5) t35 (Sl.stk (own_still o3 (by decide)) k5) (by omega) (put_small h0)
    have u6 := (u3.below b5).below b6
    have u7 := u6.trans (up_self (F := F1) f7)
    refine ⟨w6, A6, n6, c6, hr6, ok_ret b6 (u3.below b5).fr, g, 0, rfl, w7, hr7, ⟨u7.fr, f7.size, fun b hb hl => f7.block b hl fun hm => ?_⟩, ?_⟩
    · simp at hb hm; omega
    refine (note_c h7 0).mono ?_
    rintro e w8 ⟨F8, h8, u8, rfl⟩
    have u8' := u7.trans (up_cons (g := g) u8)
    have e2 : sendF s fs[k] = ((s.1.1 ++ [putW fs[k]], addV s.1.2 0 1), s.2 + 1) := by unfold sendF; rw [if_pos h0, if_neg (by omega)]
    refine ⟨rfl, ⟨u8'.fr, mild_up u8 fun b hb hm => ?_⟩, ⟨k + 1, ((s.1.1 ++ [putW fs[k]], addV s.1.2 0 1), s.2 + 1), F8, by rw [wrap_in (by omega)]; rfl, hk', by rw [hstep, e2], by rw [wrap_in (by omega)], ?_, ?_, h8, u8'⟩, by rw [wrap_in (x := (k : Int) + 1) (by omega)]; dsimp only; omega⟩
    · simp at hb; have := h1.tal.lt b hm; omega
    · show 0 ≤ s.2 + 1; omega
    · show s.2 + 1 ≤ ((k + 1 : Nat) : Int); omega
  · rw [List.take_of_length_le (by omega)] at hs
    unfold sendV
    rw [← hs]
    exact ⟨h1, u1, rfl⟩
theorem tally_c (h : NetS w g t xss ts Ft) : Calls Try.prog 36 #[.pointer (some ⟨g, 0, none⟩)] w fun e w' => ∃ Ft' A n c, NetS w' g t xss ts Ft' ∧ Up Ft w Ft' w' ∧ OwnF w' w.heap.size 3 (.slice A n c) ts ∧ e = .returned (.slice A n c) := by
  obtain ⟨A, n, c, hg, hv⟩ := h.hg
  refine netTally_sx _ (fun b => b ∈ Ft) w _ ⟨g, 0, rfl, _, cells_row hg rfl, ?_⟩
  refine (all_c h.tal).mono ?_
  rintro e w1 ⟨F1, A1, n1, c1, t1, u1, o1, rfl, -⟩
  exact ⟨A1, n1, c1, rfl, ⟨u1.fr, mild_nil u1.fr.size⟩, F1, A1, n1, c1, ⟨⟨A, n, c, (u1.fr.block g (heap_lt hg) h.apart).trans hg, hv.stk (stk_up u1 fun b hb => h.loud b (by simp [hb]))⟩, t1, h.len, h.small⟩, u1, o1, rfl⟩
theorem netNew_c (w : World) : Calls Try.prog 25 #[] w fun e w' => ∃ g F, Net w' g [] (List.replicate 6 0) F ∧ (∀ b ∈ F, w.heap.size ≤ b) ∧ Below w.heap.size w w' ∧ e = .returned (.pointer (some ⟨g, 0, none⟩)) := by
  refine netNew_sx _ (fun _ => False) w ?_
  refine (new_c w 6).mono ?_
  rintro e w1 ⟨t, ht, h1, b1, rfl⟩
  refine ⟨_, rfl, ok_ret b1 (Fr.refl _ _), rfl, rfl, ?_⟩
  intro g hg w2 f2 b2 lo t2
  have h2 := h1.below b2
  refine ⟨g, [g, t], .mk t [t] ⟨⟨_, _, _, t2, [], Sl.nil0 _ _, Al.nil⟩, h2, by simp, by simp⟩, ?_, b1.trans (b2.mono b1.size), rfl⟩
  intro b hb
  simp at hb
  rcases hb with rfl | rfl
  · exact hg
  · exact ht
set_option maxHeartbeats 1000000 in
theorem netClone_c (h : NetS w g t xss ts Ft) : Calls Try.prog 37 #[.pointer (some ⟨g, 0, none⟩)] w fun e w' => ∃ g' F1 F2, Net w' g xss ts F1 ∧ Net w' g' xss ts F2 ∧ Up (g :: Ft) w F1 w' ∧ (∀ b ∈ F2, w.heap.size ≤ b) ∧ (∀ b ∈ F2, b ∉ F1) ∧ e = .returned (.pointer (some ⟨g', 0, none⟩)) := by
  obtain ⟨A, n, c, hg, hv⟩ := h.hg
  have hn := hv.len
  have hl := h.len
  have lg := heap_lt hg
  refine netClone_sx _ (fun b => b ∈ g :: Ft) w _ ⟨[], (fun b hb => by cases hb), g, 0, rfl, fun w1 f1 b1 => ?_⟩
  have hg1 := (b1.block g lg).trans hg
  have h1 := h.below b1
  obtain ⟨hs, q1, q2⟩ := hv.stk (stk_below b1)
  refine ⟨A, n, c, cells_row hg1 rfl, ⟨lg, by simp⟩, g, 0, rfl, _, cells_row hg1 rfl, ⟨lg, by simp⟩, ?_⟩
  refine (clones_c q1 (by omega)).mono ?_
  rintro e w2 ⟨A2, n2, c2, rfl, o2, b2⟩
  have h2 := h1.below b2
  refine ⟨A2, n2, c2, rfl, ok_ret b2 f1, keep_below b2 b1.size, ?_⟩
  refine (clone_c h2.tal).mono ?_
  rintro e w3 ⟨t', F1, F2, ht', t1, t2, u3, ge3, d3, rfl⟩
  have u03 : Up (g :: Ft) w (g :: F1) w3 := (((Up.refl _ _).below b1).below b2).trans (up_cons u3)
  refine ⟨_, rfl, ⟨u03.fr, mild_nil u3.fr.size⟩, rfl, rfl, ?_⟩
  intro g14 hg14 w4 f4 b4 lo14 t14
  have loud2 := h2.loud
  have k3 : StK w2 w3 := stk_up u3 fun b hb => loud2 b (by simp [hb])
  have hg3 : w3.heap[g]? = _ := (u3.fr.block g (h2.lt g (by simp)) h2.apart).trans ((b2.block g (h1.lt g (by simp))).trans hg1)
  have hv2 : Vw w2 (.slice A n c) xss := ⟨hs, Sl.stk q1 (stk_below b2), q2.stk (stk_below b2)⟩
  have n3 : NetS w3 g t xss ts F1 := ⟨⟨A, n, c, hg3, hv2.stk k3⟩, t1, hl, h.small⟩
  have hvn : Vw w2 (.slice A2 n2 c2) xss := ⟨hs, own_still o2 (by decide), q2.stk (stk_below b2)⟩
  have lo1 := b1.size
  have lo2 := b2.size
  refine ⟨g14, g :: F1, g14 :: F2, .mk t F1 (n3.below b4), .mk t' F2 ⟨⟨_, _, _, t14, (hvn.stk k3).stk (stk_below b4)⟩, t2.below b4, hl, h.small⟩, u03.below b4, ?_, ?_, rfl⟩
  · intro b hb
    rcases List.mem_cons.1 hb with rfl | hb
    · exact hg14
    · have := ge3 b hb; omega
  · intro b hb hm
    rcases List.mem_cons.1 hb with rfl | hb
    · have := n3.lt b hm; omega
    · rcases List.mem_cons.1 hm with rfl | hm
      · have := ge3 b hb; omega
      · exact d3 b hb hm
end
/- The same, whatever the blocks are named. -/
section
variable {w : World} {g : Nat} {xss : List (List UInt8)} {ts : List Int} {F : List Nat}
abbrev Np (g : Nat) : Value := .pointer (some ⟨g, 0, none⟩)
theorem nSend (h : Net w g xss ts F) {ok : Nat → Prop} (hok : ∀ b ∈ F, ¬ ok b) {A : Option Addr} {n c : Nat} {fs : List FV} (hf : Fs w ok (.slice A n c) fs) :
    Calls Try.prog 27 #[Np g, .slice A n c] w fun e w' => ∃ F', Net w' g (sendV (xss, ts) fs).1.1 (sendV (xss, ts) fs).1.2 F' ∧ Up F w F' w' ∧ e = .returned (.int .i64 (sendV (xss, ts) fs).2) := by
  cases h with | mk t Ft h => exact (send_c h hok hf).mono fun e w' ⟨F', a, b, c⟩ => ⟨_, .mk _ _ a, b, c⟩
theorem nLen (h : Net w g xss ts F) : Calls Try.prog 29 #[Np g] w (Ret (.int .i64 (xss.length : Int)) w) := by cases h with | mk t Ft h => exact len_c h
theorem nAt (h : Net w g xss ts F) (i : Int) : Calls Try.prog 31 #[Np g, .int .i64 i] w fun e w' => FrR w.heap.size (atV xss i) e w' ∧ Below w.heap.size w w' := by cases h with | mk t Ft h => exact at_c h i
theorem nDeliver (h : Net w g xss ts F) (i : Int) : Calls Try.prog 33 #[Np g, .int .i64 i] w fun e w' => FrR w.heap.size (atV xss i) e w' ∧ ∃ F', Net w' g (deliverV (xss, ts) i).1 (deliverV (xss, ts) i).2 F' ∧ Up F w F' w' := by
  cases h with | mk t Ft h => exact (deliver_c h i).mono fun e w' ⟨r, F', a, b⟩ => ⟨r, _, .mk _ _ a, b⟩
theorem nDrop (h : Net w g xss ts F) (i : Int) : Calls Try.prog 30 #[Np g, .int .i64 i] w fun e w' => ∃ F', Net w' g (dropV (xss, ts) i).1 (dropV (xss, ts) i).2 F' ∧ Up F w F' w' ∧ e = .returned (.int .i64 (dropE (xss, ts) i)) := by
  cases h with | mk t Ft h => exact (drop_c h i).mono fun e w' ⟨F', a, b, c⟩ => ⟨_, .mk _ _ a, b, c⟩
theorem nDouble (h : Net w g xss ts F) (i : Int) : Calls Try.prog 34 #[Np g, .int .i64 i] w fun e w' => ∃ F', Net w' g (doubleV (xss, ts) i).1 (doubleV (xss, ts) i).2 F' ∧ Up F w F' w' ∧ e = .returned (.int .i64 (doubleE (xss, ts) i)) := by
  cases h with | mk t Ft h => exact (double_c h i).mono fun e w' ⟨F', a, b, c⟩ => ⟨_, .mk _ _ a, b, c⟩
theorem nTurn (h : Net w g xss ts F) (i a : Int) : Calls Try.prog 35 #[Np g, .int .i64 i, .int .i64 a] w fun e w' => ∃ F', Net w' g (turnV (xss, ts) i a).1 (turnV (xss, ts) i a).2 F' ∧ Up F w F' w' ∧ e = .returned (.int .i64 (turnE (xss, ts) i a)) := by
  cases h with | mk t Ft h => exact (turn_c h i a).mono fun e w' ⟨a, b, c⟩ => ⟨_, .mk _ _ a, b, c⟩
theorem nTally (h : Net w g xss ts F) : Calls Try.prog 36 #[Np g] w fun e w' => ∃ F' A n c, Net w' g xss ts F' ∧ Up F w F' w' ∧ OwnF w' w.heap.size 3 (.slice A n c) ts ∧ e = .returned (.slice A n c) := by
  cases h with | mk t Ft h => exact (tally_c h).mono fun e w' ⟨F', A, n, c, a, b, o, r⟩ => ⟨_, A, n, c, .mk _ _ a, up_cons b, o, r⟩
theorem nClone (h : Net w g xss ts F) : Calls Try.prog 37 #[Np g] w fun e w' => ∃ g' F1 F2, Net w' g xss ts F1 ∧ Net w' g' xss ts F2 ∧ Up F w F1 w' ∧ (∀ b ∈ F2, w.heap.size ≤ b) ∧ (∀ b ∈ F2, b ∉ F1) ∧ e = .returned (Np g') := by
  cases h with | mk t Ft h => exact netClone_c h
end
end Go.Proofs.Ytdjjfpcfclheiaa
