/- Net: the law NetOrder. -/
import Derived.Test.YtdjjfpcfclheiaaNetW
import Derived.Test.YtdjjfpcfclheiaaNetO
set_option linter.unusedSimpArgs false
set_option linter.unusedVariables false
namespace Go.Proofs.Ytdjjfpcfclheiaa
open Go Go.RowKit Go.Proofs Go.Trc Go.Sx
theorem net_own_ne {w : World} {g : Nat} {xss : List (List UInt8)} {ts : List Int} {F : List Nat} (h : Net w g xss ts F) {α : Type} [Rep α] {base : Nat} {e : TypeId} {v : Value} {ys : List α} (o : OwnF w base e v ys) (h0 : TN ≠ e) (h1 : e ≠ TT) (h2 : e ≠ TE) : ∀ k, v.ownBlock = some k → ¬ k ∈ F := by
  cases h with
  | mk t Ft h =>
    intro k hk hm
    rcases List.mem_cons.1 hm with rfl | hm
    · obtain ⟨A, n, c, hg, _⟩ := h.hg
      exact own_ne' o hg h0 hk
    · exact h.tal.own_ne o h1 h2 k hk hm
/-- Frames of one's own; their bytes came in. -/
def OwnFr (w w' : World) (v : Value) (fs : List FV) : Prop := ∃ hs : List Fh, OwnF w' w.heap.size TF v hs ∧ Al (FrOk w (fun b => b < w.heap.size)) hs fs
theorem OwnFr.len {w w' : World} {A : Option Addr} {n c : Nat} {fs : List FV} (h : OwnFr w w' (.slice A n c) fs) : n = fs.length := by
  obtain ⟨hs, o, a⟩ := h
  rw [← a.1]; exact o.sl.len
theorem OwnFr.below {w w' w'' : World} {v : Value} {fs : List FV} (h : OwnFr w w' v fs) (b : Below w'.heap.size w' w'') : OwnFr w w'' v fs := by
  obtain ⟨hs, o, a⟩ := h
  exact ⟨hs, o.below b, a⟩
theorem OwnFr.past {w w' w'' : World} {v : Value} {fs : List FV} {g : Nat} {xss : List (List UInt8)} {ts : List Int} {F F' : List Nat} (h : OwnFr w w' v fs) (hn : Net w' g xss ts F) (u : Up F w' F' w'') : OwnFr w w'' v fs := by
  obtain ⟨hs, o, a⟩ := h
  exact ⟨hs, OwnF.past o u.fr (net_own_ne hn o (by decide) (by decide) (by decide)), a⟩
theorem body_in {w w' : World} {f : FV} {h : Fh} (hf : FrOk w (fun b => b < w.heap.size) h f) (f1 : Fr (fun _ => False) w w') : FrOk w' (fun b => b < w.heap.size) h f := hf.mono fun b hb hl => ⟨hb, f1.block b hl fun h => h⟩
theorem body_out {w w' : World} {f : FV} {h : Fh} (hf : FrOk w' (fun b => b < w.heap.size) h f) (f1 : Fr (fun _ => False) w w') : FrOk w (fun b => b < w.heap.size) h f := hf.mono fun b hb hl => ⟨hb, (f1.block b hb fun h => h).symm⟩
/-- One of them. -/
theorem OwnFr.get {w w' : World} {A : Option Addr} {n c : Nat} {fs : List FV} (h : OwnFr w w' (.slice A n c) fs) (f1 : Fr (fun _ => False) w w') (k : Nat) (hk : k < fs.length) :
    ∃ p A' n' c', A = some ⟨p, 0, none⟩ ∧ p < w'.heap.size ∧ CellsAt w' p (0 + k * 7 + 0) [.int .i64 fs[k].kd, .int .i64 fs[k].fr, .int .i64 fs[k].to, .int .i64 fs[k].ep, .int .i64 fs[k].sq, .int .i64 fs[k].ak, .slice A' n' c'] ∧ Sl w' (fun b => b < w.heap.size) (.slice A' n' c') fs[k].bd := by
  obtain ⟨hs, o, a⟩ := h
  have hl := a.1
  obtain ⟨g, rfl, g1, g2, _⟩ := own_some o (by omega)
  obtain ⟨hd, e, s⟩ := a.2 k (by omega) hk
  have hc := o.sl.at_k k (by omega)
  rw [e] at hc
  exact ⟨g, _, _, _, rfl, g2, hc, s.mono fun b hb hl => ⟨hb, f1.block b hl fun h => h⟩⟩
/-- Where the law stands. -/
structure OSt (w w' : World) (gn g7 : Nat) (A : Option Addr) (n c : Nat) (fs : List FV) : Prop where
  own : OwnFr w w' (.slice A n c) fs
  may : ∀ f ∈ fs, mayV f = 0
  net : ∃ ts F, Net w' gn (fs.map putW) ts F ∧ (∀ b ∈ F, w.heap.size ≤ b) ∧ g7 ∉ F
  lt7 : g7 < w'.heap.size
  tl : ∀ j, tail (.slice A n c) = some j → j ≠ g7
  few : fs.length ≤ 30
theorem neq_bool (W : World) (x y : Bool) : (binOp .neq 4 (.bool x) (.bool y)).run Try.prog W = .ok (.bool (x != y)) W := by
  go_simp
  cases x <;> cases y <;> rfl
/-- One's own row of frames grows. -/
theorem net_grown {w w' : World} {g base : Nat} {xss : List (List UInt8)} {ts : List Int} {F : List Nat} {v : Value} {hs : List Fh} (h : Net w g xss ts F) (o : OwnF w base TF v hs) (gr : w.grownBy w' (tail v)) : Net w' g xss ts F := by
  have htl : ∀ j, tail v = some j → ∃ C, w.heap[j]? = some (.cells C TF (0, 0)) := fun j hj => by
    have hb := (tail_base o hj).1
    obtain ⟨cs, ⟨_, q⟩, _⟩ := o
    rcases q with ⟨q, _⟩ | ⟨g', cap, cur, q, _, hg', _⟩
    · rw [q] at hb; cases hb
    · rw [q] at hb; injection hb with hb; have hb : g' = j := hb; subst hb; exact ⟨cur, hg'⟩
  have hne := net_own_ne h o (by decide) (by decide) (by decide)
  have hk : ∀ b ∈ F, b < w.heap.size → w'.heap[b]? = w.heap[b]? := fun b hb hl => gr.block b hl fun e => hne b (tail_base o e.symm).1 hb
  cases h with
  | mk t Ft h =>
    refine .mk t Ft (h.keep (fun b hb => hk b hb (h.lt b hb)) fun b hb => gr.block b (still_lt hb) fun e => ?_)
    obtain ⟨C, hC⟩ := htl b e.symm
    exact not_still hC (.inr (.inr (.inr (.inr rfl)))) hb
def OI1 (w : World) (n1 gn g7 : Nat) (A8 : Option Addr) (n9 n10 : Nat) (b11 : Bool) (i12 : Int) (w' : World) : Prop := ∃ (k : Nat) (fs : List FV), i12 = k ∧ k ≤ n1 ∧ k ≤ 30 ∧ fs.length ≤ k ∧ OSt w w' gn g7 A8 n9 n10 fs
def OM1 (n1 : Nat) (A8 : Option Addr) (n9 n10 : Nat) (b11 : Bool) (i12 : Int) (w' : World) : Nat := (n1 - i12 : Int).toNat
theorem send_more {xss : List (List UInt8)} {ts : List Int} {f : FV} (hl : xss.length < 4096) : sendV (xss, ts) [f] = if mayV f = 0 then ((xss ++ [putW f], addV ts 0 1), 1) else ((xss, ts), 0) := by
  unfold sendV
  show sendF ((xss, ts), 0) f = _
  unfold sendF
  by_cases h : mayV f = 0
  · rw [if_pos h, if_pos h, if_neg (by show ¬ 4096 ≤ xss.length; omega)]; rfl
  · rw [if_neg h, if_neg h]
set_option maxHeartbeats 16000000 in
theorem order_step {w w4 : World} {A0 A8 : Option Addr} {n1 n2 n9 n10 k gn g7 : Nat} {b11 : Bool} {xs : List FrT} {fs : List FV} (f4 : Fr (fun _ => False) w w4) (h : Sl w (fun b => b < w.heap.size) (.slice A0 n1 n2) xs) (hk1 : k < n1) (hk30 : k < 30) (hfs : fs.length ≤ k) (st : OSt w w4 gn g7 A8 n9 n10 fs) (ge7 : w.heap.size ≤ g7) :
∃ A13 : Option Addr, ∃ n14 : Nat, ∃ n15 : Nat, (Instr.sliceAt 42 (.slice A0 n1 n2) (some (.int .i64 (k : Int))) (some (.int .i64 (IntKind.i64.wrap ((k : Int) + (1 : Int))))) none).run Try.prog w4 = .ok (.slice A13 n14 n15) w4 ∧
      (
      Calls Try.prog 26 #[(.slice A13 n14 n15)] w4 fun r w5 => ∃ A16 : Option Addr, ∃ n17 : Nat, ∃ n18 : Nat, r = .returned (.slice A16 n17 n18) ∧ (Go.Sx.Fr (fun _ => False) w w5 ∧ Go.Sx.Mild [g7] w4 w5) ∧ 
      ((0 : Int) ≤ (0 : Int) ∧ (0 : Int) < (n17 : Int) ∧ ∃ p19 : Nat, ∃ o20 : Nat, A16 = some ⟨p19, o20, none⟩ ∧
      (∃ i21 : Int, ∃ i22 : Int, ∃ i23 : Int, ∃ i24 : Int, ∃ i25 : Int, ∃ i26 : Int, ∃ A27 : Option Addr, ∃ n28 : Nat, ∃ n29 : Nat, Go.Sx.CellsAt w5 p19 (o20 + ((0 : Int)).toNat * 7 + 0) [.int .i64 i21, .int .i64 i22, .int .i64 i23, .int .i64 i24, .int .i64 i25, .int .i64 i26, .slice A27 n28 n29] ∧ 
      ∀ g30 : Nat, w.heap.size ≤ g30 → ∀ g31 : Nat, w.heap.size ≤ g31 → (∀ w6 : World, Go.Sx.Fr (fun _ => False) w w6 → Below w5.heap.size w5 w6 → w5.heap.size ≤ g31 → w6.heap[g31]? = some (.cells #[.int .i64 i21, .int .i64 i22, .int .i64 i23, .int .i64 i24, .int .i64 i25, .int .i64 i26, .slice A27 n28 n29] 47 (0, 0)) → w5.heap.size ≤ g30 → w6.heap[g30]? = some (.cells #[.int .i64 i21, .int .i64 i22, .int .i64 i23, .int .i64 i24, .int .i64 i25, .int .i64 i26, .slice A27 n28 n29] 47 (0, 0)) → 
      Calls Try.prog 27 #[((Value.pointer (some ⟨gn, 0, none⟩))), (.slice (some ⟨g31, 0, none⟩) 1 1)] w6 fun r w7 => ∃ i32 : Int, r = .returned (.int .i64 i32) ∧ (Go.Sx.Fr (fun _ => False) w w7 ∧ Go.Sx.Mild [g31, g30, g7] w6 w7) ∧ 
      (∃ (I2 : Option Addr → Nat → Nat → World → Prop) (M2 : Option Addr → Nat → Nat → World → Nat),
      (
      Calls Try.prog 28 #[(.agg #[.int .i64 i21, .int .i64 i22, .int .i64 i23, .int .i64 i24, .int .i64 i25, .int .i64 i26, .slice A27 n28 n29])] w7 fun r w8 => ∃ i33 : Int, r = .returned (.int .i64 i33) ∧ (Go.Sx.Fr (fun _ => False) w w8 ∧ Go.Sx.Mild [g31, g30, g7] w7 w8) ∧ 
      ((i33 = (0 : Int) →
      ∀ g34 : Nat, w.heap.size ≤ g34 → (∀ w9 : World, Go.Sx.Fr (fun _ => False) w w9 → Below w8.heap.size w8 w9 → w8.heap.size ≤ g34 → w9.heap[g34]? = some (.cells #[.int .i64 i21, .int .i64 i22, .int .i64 i23, .int .i64 i24, .int .i64 i25, .int .i64 i26, .slice A27 n28 n29] 47 (0, 0)) → 
       ∃ w10 : World, ∃ A35 : Option Addr, ∃ n36 : Nat, ∃ n37 : Nat, (Builtin.append_ #[42, 42] 42 #[(.slice A8 n9 n10), (.slice (some ⟨g34, 0, none⟩) 1 1)]).run Try.prog w9 = .ok (.slice A35 n36 n37) w10 ∧ (Go.Sx.Fr (fun _ => False) w w10 ∧ Go.Sx.Mild [g34, g31, g30, g7] w9 w10) ∧ 
       (I2 A35 n36 n37 w10 ∧ M2 A35 n36 n37 w10 < 1))) ∧
      (¬ i33 = (0 : Int) →
      (I2 A8 n9 n10 w8 ∧ M2 A8 n9 n10 w8 < 1)))) ∧
      ∀ A33 : Option Addr, ∀ n34 : Nat, ∀ n35 : Nat, ∀ w8 : World, Go.Sx.Fr (fun _ => False) w w8 → I2 A33 n34 n35 w8 → 
       (
       Calls Try.prog 28 #[(.agg #[.int .i64 i21, .int .i64 i22, .int .i64 i23, .int .i64 i24, .int .i64 i25, .int .i64 i26, .slice A27 n28 n29])] w8 fun r w9 => ∃ i36 : Int, r = .returned (.int .i64 i36) ∧ (Go.Sx.Fr (fun _ => False) w w9 ∧ Go.Sx.Mild [g31, g30, g7] w8 w9) ∧ 
       (∃ b37 : Bool, (binOp .neq 4 (.bool (i32 == (1 : Int))) (.bool (i36 == (0 : Int)))).run Try.prog w9 = .ok (.bool b37) w9 ∧
       ((b37 = true →
       ((Ret (Value.bool true) w) (.returned (.bool false)) w9)) ∧
       (b37 = false →
       (
        Calls Try.prog 29 #[((Value.pointer (some ⟨gn, 0, none⟩)))] w9 fun r w10 => ∃ i38 : Int, r = .returned (.int .i64 i38) ∧ (Go.Sx.Fr (fun _ => False) w w10 ∧ Go.Sx.Mild [g31, g30, g7] w9 w10) ∧ 
        ((¬ i38 = (n34 : Int) →
        ((Ret (Value.bool true) w) (.returned (.bool false)) w10)) ∧
        (i38 = (n34 : Int) →
        (OI1 w n1 gn g7 A33 n34 n35 b11 (IntKind.i64.wrap ((k : Int) + (1 : Int))) w10 ∧ OM1 n1 A33 n34 n35 b11 (IntKind.i64.wrap ((k : Int) + (1 : Int))) w10 < OM1 n1 A8 n9 n10 b11 (k : Int) w4)))))))))))))
  := by
  have hlen := h.len_eq
  obtain ⟨own, may, ⟨ts, F, net, geF, a7⟩, lt7, tl7, few⟩ := st
  have hlt4 := net.lt
  have s4' := f4.size
  -- l[i:i+1]
  obtain ⟨ii, hi, hz, hsz, hby⟩ := info_parts infoF
  have hmid := Frm.run_slice_mid (P := Try.prog) (w := w4) 42 47 ii Try.underlying42 hi A0 n1 n2 k (k + 1) (by omega) (by omega)
  rw [hsz] at hmid
  have s4 := ((h.below (fr_below f4)).take (k + 1) n2 (by omega) (by omega) (by omega)).drop k (by simp; omega)
  have e1 : (xs.take (k + 1)).drop k = [xs[k]'(by omega)] := by
    rw [List.take_succ_eq_append_getElem (by omega), List.drop_append_of_le_length (by simp; omega), List.drop_of_length_le (by simp; omega)]; rfl
  rw [e1] at s4
  have fsx : Fs w4 (fun b => b < w.heap.size) (.slice (if n2 = k then A0 else A0.map (·.add (k * 7))) (k + 1 - k) (n2 - k)) [toF (xs[k]'(by omega))] := fs_of s4
  generalize toF (xs[k]'(by omega)) = fx at fsx
  generalize (if n2 = k then A0 else A0.map (·.add (k * 7))) = A13 at hmid fsx
  refine ⟨A13, k + 1 - k, n2 - k, by rw [wrap_in (by omega)]; exact hmid, ?_⟩
  refine (few_c fsx).mono ?_
  rintro e w5 ⟨A5, n5, c5, hs5, rfl, o5, a5, b5⟩
  have f5 := f4.step b5
  have s5 := b5.size
  have a5' : Al (FrOk w5 (fun b => b < w.heap.size)) hs5 [cutF fx] := Al.mono a5 fun h f hh => hh.mono fun b hb hl => ⟨hb, b5.block b hl⟩
  have fs5 : Fs w5 (fun b => b < w.heap.size ∨ w4.heap.size ≤ b) (.slice A5 n5 c5) [cutF fx] := ⟨hs5, o5.sl.weaken fun b hb _ => .inr hb, Al.mono a5' fun h f hh => hh.mono fun b hb hl => ⟨.inl hb, rfl⟩⟩
  have hn5 := fs5.len
  simp only [List.length_singleton] at hn5
  obtain ⟨p, o, A', n', c', rfl, _, hc, wf', _, _⟩ := fs5.get 0 (by simp)
  -- the body came in
  have hb5 : Sl w5 (fun b => b < w.heap.size) (.slice A' n' c') (cutF fx).bd := by
    obtain ⟨hd, he, hs⟩ := a5'.2 0 (by have := a5'.1; simp at this; omega) (by simp)
    have h2 := o5.sl.at_k 0 (by have := a5'.1; simp at this; omega)
    obtain ⟨b', o', hA, _⟩ := o5.sl.at_ (by have := a5'.1; simp at this; omega)
    rw [he] at h2
    have e2 := h2 6 _ rfl
    have e3 := hc 6 _ rfl
    have e4 := e2.symm.trans e3
    injection e4 with e4
    rw [← e4]; exact hs
  refine ⟨_, n5, c5, rfl, ok_ret b5 f4, by omega, by omega, p, o, rfl, _, _, _, _, _, _, A', n', c', hc, ?_⟩
  intro g30 hg30 g31 hg31 w6 f6 b6 lo31 t31 lo30 t30
  have s6 := b6.size
  have l30 := heap_lt t30
  have l31 := heap_lt t31
  have n6 := (net.below b5).below b6
  have own6 := (own.below b5).below b6
  have fs6 : Fs w6 (fun b => b ∉ F) (.slice (some ⟨g31, 0, none⟩) 1 1) [cutF fx] := fs_one t31 wf' ((hb5.below b6).weaken fun b hb _ hm => by have := geF b hm; omega) (fun hm => by have := hlt4 g31 hm; omega)
  have ap : ∀ b ∈ [g31, g30, g7], b ∉ F := by
    intro b hb hm
    have := hlt4 b hm
    simp at hb
    rcases hb with rfl | rfl | rfl
    · omega
    · omega
    · exact a7 hm
  have lt6 : ∀ b ∈ [g31, g30, g7], b < w6.heap.size := by intro b hb; simp at hb; omega
  refine (nSend n6 (fun b hb h => h hb) fs6).mono ?_
  rintro e w7 ⟨F7, n7, u7, rfl⟩
  have hsm := send_more (xss := fs.map putW) (ts := ts) (f := cutF fx) (by simp; omega)
  have f7 := up_fr f6 u7 geF
  have ge7' := up_ge u7 geF f6.size
  have own7 := own6.past n6 u7
  have ap7 := apart_up u7 lt6 ap
  have a77 : g7 ∉ F7 := ap7 g7 (by simp)
  have s7 := u7.fr.size
  have nb := hb5.len
  have hm : Frm.mayF (cutF fx).kd (cutF fx).fr (cutF fx).to (cutF fx).ep (cutF fx).sq (cutF fx).ak n' = mayV (cutF fx) := by unfold mayV; rw [nb]
  have hbw : Sl w (fun b => b < w.heap.size) (.slice A' n' c') (cutF fx).bd := hb5.mono fun b hb hl => ⟨hb, (f5.block b hb fun h => h).symm⟩
  -- what is one's own then
  obtain ⟨fs', many, hfs', hmany, hn7⟩ : ∃ fs' : List FV, ∃ many : Int, (fs' = if mayV (cutF fx) = 0 then fs ++ [cutF fx] else fs) ∧ (many = if mayV (cutF fx) = 0 then 1 else 0) ∧ ((∃ ts', Net w7 gn (fs'.map putW) ts' F7) ∧ (sendV (fs.map putW, ts) [cutF fx]).2 = many) := by
    by_cases h0 : mayV (cutF fx) = 0
    · rw [hsm, if_pos h0] at n7
      refine ⟨fs ++ [cutF fx], 1, by rw [if_pos h0], by rw [if_pos h0], ⟨addV ts 0 1, ?_⟩, by rw [hsm, if_pos h0]⟩
      rw [List.map_append]; exact n7
    · rw [hsm, if_neg h0] at n7
      exact ⟨fs, 0, by rw [if_neg h0], by rw [if_neg h0], ⟨_, n7⟩, by rw [hsm, if_neg h0]⟩
  obtain ⟨⟨ts', n7'⟩, hmn⟩ := hn7
  rw [hmn]
  have hfew' : fs'.length ≤ k + 1 := by
    rw [hfs']
    split
    · simp; omega
    · omega
  have hmay' : ∀ f ∈ fs', mayV f = 0 := by
    rw [hfs']
    by_cases h0 : mayV (cutF fx) = 0
    · rw [if_pos h0]
      intro f hf
      rcases List.mem_append.1 hf with hf | hf
      · exact may f hf
      · simp at hf; subst hf; exact h0
    · rw [if_neg h0]; exact may
  refine ⟨_, rfl, ⟨f7, mild_up u7 ap⟩, fun A n c w' => OSt w w' gn g7 A n c fs', fun _ _ _ _ => 0, ?_, ?_⟩
  · refine (Frm.refMay_c w7 _ _ _ _ _ _ _ _ _).mono ?_
    rintro e w8 ⟨rfl, b8⟩
    have f8 := f7.step b8
    have s8 := b8.size
    refine ⟨_, rfl, ok_ret b8 f7, fun h0 g34 hg34 w9 f9 b9 lo34 t34 => ?_, fun hne => ⟨?_, Nat.zero_lt_one⟩⟩
    · have h0 : mayV (cutF fx) = 0 := hm.symm.trans h0
      obtain ⟨hs, o9, a9⟩ := (own7.below b8).below b9
      have nn9 := (n7'.below b8).below b9
      have s9 := b9.size
      have hlo := a9.1
      obtain ⟨w10, A10, n10', c10, hr10, o10, gr10, tl10⟩ := own_app (P := Try.prog) o9 42 42 _ 72 Try.underlying42 infoF rfl (arg_cells [(((cutF fx).kd, (cutF fx).fr, (cutF fx).to, (cutF fx).ep, (cutF fx).sq, (cutF fx).ak, ⟨A', n', c'⟩) : Fh)] 1 rfl t34 (by decide) (fun x hx => by simp only [List.mem_singleton] at hx; subst hx; exact wf')) f9.size (by simp; omega) (by simp; omega)
      have lt4 : ∀ j, tail (.slice A8 n9 n10) = some j → j < w4.heap.size := fun j hj => by obtain ⟨hs4, o4, _⟩ := own; exact tail_lt o4 hj
      have f10 : Fr (fun _ => False) w w10 := grown_fr (B := 0) gr10 f9 fun j hj => (tail_base o9 hj).2.1
      refine ⟨w10, A10, n10', c10, hr10, ⟨f10, grown_mild gr10 fun b hb he => ?_⟩, ⟨⟨_, o10, ?_⟩, hmay', ⟨ts', F7, net_grown nn9 o9 gr10, ge7', a77⟩, ?_, fun j hj => ?_, by omega⟩, Nat.zero_lt_one⟩
      · have e1 := lt4 b he.symm
        have e2 := tl7 b he.symm
        simp at hb; omega
      · rw [hfs', if_pos h0]
        exact a9.append (Al.one ⟨_, rfl, hbw⟩)
      · have := gr10.size; omega
      · rcases tl10 j hj with h | h
        · exact tl7 j h
        · omega
    · have h0 : ¬ mayV (cutF fx) = 0 := fun h => hne (hm.trans h)
      refine ⟨?_, hmay', ⟨ts', F7, n7'.below b8, ge7', a77⟩, by omega, tl7, by omega⟩
      rw [hfs', if_neg h0]; exact own7.below b8
  · intro A33 n34 n35 w8 f8 st8
    obtain ⟨own8, may8, ⟨ts8, F8, n8, ge8, a78⟩, lt78, tl8, few8⟩ := st8
    refine (Frm.refMay_c w8 _ _ _ _ _ _ _ _ _).mono ?_
    rintro e w9 ⟨rfl, b9⟩
    have f9 := f8.step b9
    refine ⟨_, rfl, ok_ret b9 f8, _, neq_bool w9 _ _, fun hbad => ?_, fun _ => ?_⟩
    · exfalso
      have hbad : ((many == 1) != (Frm.mayF (cutF fx).kd (cutF fx).fr (cutF fx).to (cutF fx).ep (cutF fx).sq (cutF fx).ak n' == 0)) = true := hbad
      rw [hm, hmany] at hbad
      by_cases h0 : mayV (cutF fx) = 0
      · rw [if_pos h0, h0] at hbad; cases hbad
      · rw [if_neg h0] at hbad; simp [h0] at hbad
    refine (nLen (n8.below b9)).mono ?_
    rintro e w10 ⟨rfl, b10⟩
    have hlen8 := own8.len
    have B10 := b9.trans (b10.mono b9.size)
    have s10 := B10.size
    refine ⟨_, rfl, ok_ret b10 f9, fun hne => absurd (by rw [List.length_map, hlen8]) hne, fun _ => ⟨⟨k + 1, fs', by rw [wrap_in (by omega)]; rfl, by omega, by omega, hfew', own8.below B10, may8, ⟨ts8, F8, n8.below B10, ge8, a78⟩, by omega, tl8, few8⟩, ?_⟩⟩
    unfold OM1
    rw [wrap_in (by omega)]
    omega
/-- Where it stands ahead of the second loop. -/
structure OS2 (w w' : World) (gn g7 : Nat) (A : Option Addr) (n c k : Nat) (fs : List FV) (G : List Nat) : Prop where
  own : OwnFr w w' (.slice A n c) fs
  net : ∃ ts F, Net w' gn ((fs.drop k).map putW) ts F ∧ (∀ b ∈ F, w.heap.size ≤ b) ∧ ∀ b ∈ g7 :: G, b ∉ F
  lt7 : ∀ b ∈ g7 :: G, b < w'.heap.size
theorem OS2.below {w w' w'' : World} {gn g7 n c k : Nat} {A : Option Addr} {fs : List FV} {G : List Nat} (h : OS2 w w' gn g7 A n c k fs G) (b : Below w'.heap.size w' w'') : OS2 w w'' gn g7 A n c k fs G := by
  obtain ⟨own, ⟨ts, F, net, ge, ap⟩, lt⟩ := h
  exact ⟨own.below b, ⟨ts, F, net.below b, ge, ap⟩, fun x hx => Nat.lt_of_lt_of_le (lt x hx) b.size⟩
def OI2 (w : World) (gn g7 : Nat) (A12 : Option Addr) (n13 n14 : Nat) (fs : List FV) (b16 : Bool) (i17 : Int) (w' : World) : Prop := ∃ k : Nat, i17 = k ∧ k ≤ fs.length ∧ OS2 w w' gn g7 A12 n13 n14 k fs []
def OM2 (n13 : Nat) (b16 : Bool) (i17 : Int) (w' : World) : Nat := (n13 - i17 : Int).toNat
theorem at_put {fs : List FV} {k j : Nat} (hmay : ∀ f ∈ fs, mayV f = 0) (h : k + j < fs.length) : atV ((fs.drop k).map putW) (j : Int) = (fs[k + j], 0) := by
  have hl : j < ((fs.drop k).map putW).length := by simp; omega
  unfold atV inV
  rw [decide_eq_true (by omega), if_pos rfl, Int.toNat_natCast, getD_at hl, List.getElem_map, List.getElem_drop]
  exact take_putW (hmay _ (List.getElem_mem h))
theorem gone_first (xss : List (List UInt8)) : goneV xss 0 = xss.drop 1 := by unfold goneV; simp
theorem deliver_first {fs : List FV} {k : Nat} {ts : List Int} (hmay : ∀ f ∈ fs, mayV f = 0) (h : k < fs.length) : (deliverV ((fs.drop k).map putW, ts) 0).1 = (fs.drop (k + 1)).map putW := by
  have hx := at_put (k := k) (j := 0) hmay (by omega)
  unfold deliverV
  have hne : ¬ (atV ((fs.drop k).map putW) 0).2 = 1 := by
    have : (atV ((fs.drop k).map putW) 0).2 = 0 := congrArg Prod.snd hx
    omega
  rw [if_neg hne]
  show goneV ((fs.drop k).map putW) 0 = _
  rw [gone_first, ← List.map_drop, List.drop_drop]
set_option maxHeartbeats 16000000 in
theorem order_two {w w4 : World} {A12 : Option Addr} {n13 n14 gn g7 : Nat} {b15 : Bool} {fs : List FV} (f4 : Fr (fun _ => False) w w4) (hmay : ∀ f ∈ fs, mayV f = 0) (few : fs.length ≤ 30) (st : OS2 w w4 gn g7 A12 n13 n14 0 fs []) :
∃ (I2 : Bool → Int → World → Prop) (M2 : Bool → Int → World → Nat), (I2 b15 (0 : Int) w4) ∧
     ∀ b16 : Bool, ∀ i17 : Int, ∀ w5 : World, Go.Sx.Fr (fun _ => False) w w5 → I2 b16 i17 w5 → 
      ((i17 < (n13 : Int) →
      (
       Calls Try.prog 31 #[((Value.pointer (some ⟨gn, 0, none⟩))), (.int .i64 (IntKind.i64.wrap ((IntKind.i64.wrap ((n13 : Int) - (1 : Int))) - i17)))] w5 fun r w6 => ∃ i18 : Int, ∃ i19 : Int, ∃ i20 : Int, ∃ i21 : Int, ∃ i22 : Int, ∃ i23 : Int, ∃ A24 : Option Addr, ∃ n25 : Nat, ∃ n26 : Nat, ∃ i27 : Int, r = .returned (.tuple #[.agg #[.int .i64 i18, .int .i64 i19, .int .i64 i20, .int .i64 i21, .int .i64 i22, .int .i64 i23, .slice A24 n25 n26], .int .i64 i27]) ∧ (Go.Sx.Fr (fun _ => False) w w6 ∧ Go.Sx.Mild [g7] w5 w6) ∧ 
       ∀ g28 : Nat, w.heap.size ≤ g28 → (∀ w7 : World, Go.Sx.Fr (fun _ => False) w w7 → Below w6.heap.size w6 w7 → w6.heap.size ≤ g28 → w7.heap[g28]? = some (.cells #[.int .i64 i18, .int .i64 i19, .int .i64 i20, .int .i64 i21, .int .i64 i22, .int .i64 i23, .slice A24 n25 n26] 47 (0, 0)) → ∃ T29 : List Nat, (∀ b ∈ T29, b < w7.heap.size ∧ b ∉ [g28, g7]) ∧
       ((0 : Int) ≤ (IntKind.i64.wrap ((n13 : Int) - (1 : Int))) ∧ (IntKind.i64.wrap ((n13 : Int) - (1 : Int))) < (n13 : Int) ∧ ∃ p30 : Nat, ∃ o31 : Nat, A12 = some ⟨p30, o31, none⟩ ∧
       (∀ w8 : World, Go.Sx.Fr (fun _ => False) w w8 → Below w7.heap.size w7 w8 → ∃ i32 : Int, ∃ i33 : Int, ∃ i34 : Int, ∃ i35 : Int, ∃ i36 : Int, ∃ i37 : Int, ∃ A38 : Option Addr, ∃ n39 : Nat, ∃ n40 : Nat, Go.Sx.CellsAt w8 p30 (o31 + ((IntKind.i64.wrap ((n13 : Int) - (1 : Int)))).toNat * 7 + 0) [.int .i64 i32, .int .i64 i33, .int .i64 i34, .int .i64 i35, .int .i64 i36, .int .i64 i37, .slice A38 n39 n40] ∧ (p30 < w7.heap.size ∧ p30 ∉ (T29 ++ [])) ∧ 
       (
       Calls Try.prog 32 #[(.agg #[.int .i64 i18, .int .i64 i19, .int .i64 i20, .int .i64 i21, .int .i64 i22, .int .i64 i23, .slice A24 n25 n26]), (.agg #[.int .i64 i32, .int .i64 i33, .int .i64 i34, .int .i64 i35, .int .i64 i36, .int .i64 i37, .slice A38 n39 n40])] w8 fun r w9 => ∃ b41 : Bool, r = .returned (.bool b41) ∧ (Go.Sx.Fr (fun _ => False) w w9 ∧ Go.Sx.Mild [g28, g7] w8 w9) ∧ 
       (∃ (I3 : Bool → World → Prop) (M3 : Bool → World → Nat),
       ((i17 = (0 : Int) →
       ((¬ i27 = (0 : Int) →
        ((Ret (Value.bool true) w) (.returned (.bool false)) w9)) ∧
        (i27 = (0 : Int) →
        ((b41 = false →
         ((Ret (Value.bool true) w) (.returned (.bool false)) w9)) ∧
         (b41 = true →
         (I3 b16 w9 ∧ M3 b16 w9 < 1)))))) ∧
       (¬ i17 = (0 : Int) →
       (I3 b16 w9 ∧ M3 b16 w9 < 1))) ∧
       ∀ b42 : Bool, ∀ w10 : World, Go.Sx.Fr (fun _ => False) w w10 → I3 b42 w10 → 
        (
        Calls Try.prog 33 #[((Value.pointer (some ⟨gn, 0, none⟩))), (.int .i64 (0 : Int))] w10 fun r w11 => ∃ i43 : Int, ∃ i44 : Int, ∃ i45 : Int, ∃ i46 : Int, ∃ i47 : Int, ∃ i48 : Int, ∃ A49 : Option Addr, ∃ n50 : Nat, ∃ n51 : Nat, ∃ i52 : Int, r = .returned (.tuple #[.agg #[.int .i64 i43, .int .i64 i44, .int .i64 i45, .int .i64 i46, .int .i64 i47, .int .i64 i48, .slice A49 n50 n51], .int .i64 i52]) ∧ (Go.Sx.Fr (fun _ => False) w w11 ∧ Go.Sx.Mild [g28, g7] w10 w11) ∧ 
        ∀ g53 : Nat, w.heap.size ≤ g53 → (∀ w12 : World, Go.Sx.Fr (fun _ => False) w w12 → Below w11.heap.size w11 w12 → w11.heap.size ≤ g53 → w12.heap[g53]? = some (.cells #[.int .i64 i43, .int .i64 i44, .int .i64 i45, .int .i64 i46, .int .i64 i47, .int .i64 i48, .slice A49 n50 n51] 47 (0, 0)) → ∃ T54 : List Nat, (∀ b ∈ T54, b < w12.heap.size ∧ b ∉ [g53, g28, g7]) ∧
        ((0 : Int) ≤ i17 ∧ i17 < (n13 : Int) ∧ ∃ p55 : Nat, ∃ o56 : Nat, A12 = some ⟨p55, o56, none⟩ ∧
        (∀ w13 : World, Go.Sx.Fr (fun _ => False) w w13 → Below w12.heap.size w12 w13 → ∃ i57 : Int, ∃ i58 : Int, ∃ i59 : Int, ∃ i60 : Int, ∃ i61 : Int, ∃ i62 : Int, ∃ A63 : Option Addr, ∃ n64 : Nat, ∃ n65 : Nat, Go.Sx.CellsAt w13 p55 (o56 + (i17).toNat * 7 + 0) [.int .i64 i57, .int .i64 i58, .int .i64 i59, .int .i64 i60, .int .i64 i61, .int .i64 i62, .slice A63 n64 n65] ∧ (p55 < w12.heap.size ∧ p55 ∉ (T54 ++ [])) ∧ 
        (
        Calls Try.prog 32 #[(.agg #[.int .i64 i43, .int .i64 i44, .int .i64 i45, .int .i64 i46, .int .i64 i47, .int .i64 i48, .slice A49 n50 n51]), (.agg #[.int .i64 i57, .int .i64 i58, .int .i64 i59, .int .i64 i60, .int .i64 i61, .int .i64 i62, .slice A63 n64 n65])] w13 fun r w14 => ∃ b66 : Bool, r = .returned (.bool b66) ∧ (Go.Sx.Fr (fun _ => False) w w14 ∧ Go.Sx.Mild [g53, g28, g7] w13 w14) ∧ 
        ((¬ i52 = (0 : Int) →
        ((Ret (Value.bool true) w) (.returned (.bool false)) w14)) ∧
        (i52 = (0 : Int) →
        ((b66 = false →
         ((Ret (Value.bool true) w) (.returned (.bool false)) w14)) ∧
         (b66 = true →
         (
          Calls Try.prog 29 #[((Value.pointer (some ⟨gn, 0, none⟩)))] w14 fun r w15 => ∃ i67 : Int, r = .returned (.int .i64 i67) ∧ (Go.Sx.Fr (fun _ => False) w w15 ∧ Go.Sx.Mild [g53, g28, g7] w14 w15) ∧ 
          ((¬ i67 = (IntKind.i64.wrap ((IntKind.i64.wrap ((n13 : Int) - (1 : Int))) - i17)) →
          ((Ret (Value.bool true) w) (.returned (.bool false)) w15)) ∧
          (i67 = (IntKind.i64.wrap ((IntKind.i64.wrap ((n13 : Int) - (1 : Int))) - i17)) →
          (I2 b42 (IntKind.i64.wrap (i17 + (1 : Int))) w15 ∧ M2 b42 (IntKind.i64.wrap (i17 + (1 : Int))) w15 < M2 b16 i17 w5)))))))))))))))))))) ∧
      ((n13 : Int) ≤ i17 →
      (
       Calls Try.prog 33 #[((Value.pointer (some ⟨gn, 0, none⟩))), (.int .i64 (0 : Int))] w5 fun r w6 => ∃ i18 : Int, ∃ i19 : Int, ∃ i20 : Int, ∃ i21 : Int, ∃ i22 : Int, ∃ i23 : Int, ∃ A24 : Option Addr, ∃ n25 : Nat, ∃ n26 : Nat, ∃ i27 : Int, r = .returned (.tuple #[.agg #[.int .i64 i18, .int .i64 i19, .int .i64 i20, .int .i64 i21, .int .i64 i22, .int .i64 i23, .slice A24 n25 n26], .int .i64 i27]) ∧ (Go.Sx.Fr (fun _ => False) w w6 ∧ Go.Sx.Mild [g7] w5 w6) ∧ 
       ∀ g28 : Nat, w.heap.size ≤ g28 → ((i27 = (1 : Int) →
       (∀ w7 : World, Go.Sx.Fr (fun _ => False) w w7 → Below w6.heap.size w6 w7 → w6.heap.size ≤ g28 → w7.heap[g28]? = some (.cells #[.int .i64 i18, .int .i64 i19, .int .i64 i20, .int .i64 i21, .int .i64 i22, .int .i64 i23, .slice A24 n25 n26] 47 (0, 0)) → 
        Calls Try.prog 29 #[((Value.pointer (some ⟨gn, 0, none⟩)))] w7 fun r w8 => ∃ i29 : Int, r = .returned (.int .i64 i29) ∧ (Go.Sx.Fr (fun _ => False) w w8 ∧ Go.Sx.Mild [g28, g7] w7 w8) ∧ 
        ((Ret (Value.bool true) w) (.returned (.bool (i29 == (0 : Int)))) w8))) ∧
       (¬ i27 = (1 : Int) →
       (∀ w7 : World, Go.Sx.Fr (fun _ => False) w w7 → Below w6.heap.size w6 w7 → w6.heap.size ≤ g28 → w7.heap[g28]? = some (.cells #[.int .i64 i18, .int .i64 i19, .int .i64 i20, .int .i64 i21, .int .i64 i22, .int .i64 i23, .slice A24 n25 n26] 47 (0, 0)) → (Ret (Value.bool true) w) (.returned (.bool false)) w7))))))
  := by
  have hn := st.own.len
  refine ⟨OI2 w gn g7 A12 n13 n14 fs, OM2 n13, ⟨0, rfl, Nat.zero_le _, st⟩, ?_⟩
  rintro b16 i17 w5 f5 ⟨k, rfl, hk, own, ⟨ts, F, net, ge, ap⟩, lt7⟩
  have ltF := net.lt
  refine ⟨fun hlt => ?_, fun hge => ?_⟩
  · have hk' : k < fs.length := by omega
    have ei : IntKind.i64.wrap (IntKind.i64.wrap ((n13 : Int) - (1 : Int)) - (k : Int)) = ((fs.length - 1 - k : Nat) : Int) := by rw [wrap_in (x := (n13 : Int) - 1) (by omega), wrap_in (by omega)]; omega
    have el : IntKind.i64.wrap ((n13 : Int) - (1 : Int)) = ((fs.length - 1 : Nat) : Int) := by rw [wrap_in (by omega)]; omega
    have hlast : k + (fs.length - 1 - k) < fs.length := by omega
    have hx := at_put (k := k) (j := fs.length - 1 - k) hmay hlast
    rw [ei, el]
    refine (nAt net _).mono ?_
    rintro e w6 ⟨r6, b6⟩
    rw [hx] at r6
    obtain ⟨A6, m6, c6, rfl, s6⟩ := r6
    have f6 := f5.step b6
    refine ⟨_, _, _, _, _, _, A6, m6, c6, _, rfl, ok_ret b6 f5, ?_⟩
    intro g28 hg28 w7 f7 b7 lo28 t28
    have l28 := heap_lt t28
    have z6 := b6.size
    have z7 := b7.size
    have B7 := b6.trans (b7.mono b6.size)
    obtain ⟨p, A', n', c', rfl, hp, hc, hb⟩ := (own.below B7).get f7 (fs.length - 1) (by omega)
    refine ⟨[], (fun b hb => by cases hb), by omega, by omega, p, 0, rfl, fun w8 f8 b8 => ⟨_, _, _, _, _, _, A', n', c', cells_below hc b8, ⟨hp, by simp⟩, ?_⟩⟩
    have z8 := b8.size
    have eq : fs[k + (fs.length - 1 - k)] = fs[fs.length - 1]'(by omega) := by congr 1; omega
    refine (Frm.same_c ((s6.below b7).below b8) (hb.below b8)).mono ?_
    rintro e w9 ⟨rfl, b9⟩
    have f9 := f8.step b9
    have B9 := B7.trans ((b8.trans (b9.mono b8.size)).mono B7.size)
    have st9 : OS2 w w9 gn g7 (some ⟨p, 0, none⟩) n13 n14 k fs [g28] := by
      refine ⟨own.below B9, ⟨ts, F, net.below B9, ge, fun b hb hm => ?_⟩, fun b hb => ?_⟩
      · simp at hb
        rcases hb with rfl | rfl
        · exact ap b (by simp) hm
        · have := ltF b hm; omega
      · have z9 := b9.size
        simp at hb
        rcases hb with rfl | rfl
        · have := lt7 b (by simp); omega
        · omega
    have hsame : Frm.sameF (fs[k + (fs.length - 1 - k)], (0 : Int)).1.kd (fs[k + (fs.length - 1 - k)], (0 : Int)).1.fr (fs[k + (fs.length - 1 - k)], (0 : Int)).1.to (fs[k + (fs.length - 1 - k)], (0 : Int)).1.ep (fs[k + (fs.length - 1 - k)], (0 : Int)).1.sq (fs[k + (fs.length - 1 - k)], (0 : Int)).1.ak (fs[k + (fs.length - 1 - k)], (0 : Int)).1.bd (fs[fs.length - 1]'(by omega)).kd (fs[fs.length - 1]'(by omega)).fr (fs[fs.length - 1]'(by omega)).to (fs[fs.length - 1]'(by omega)).ep (fs[fs.length - 1]'(by omega)).sq (fs[fs.length - 1]'(by omega)).ak (fs[fs.length - 1]'(by omega)).bd = true := by
      rw [eq]; exact same_true _
    refine ⟨_, rfl, ok_ret b9 f8, fun b w' => OS2 w w' gn g7 (some ⟨p, 0, none⟩) n13 n14 k fs [g28], fun _ _ => 0, ⟨fun _ => ⟨fun hne => absurd rfl hne, fun _ => ⟨fun hf => (by rw [hsame] at hf; cases hf), fun _ => ⟨st9, Nat.zero_lt_one⟩⟩⟩, fun _ => ⟨st9, Nat.zero_lt_one⟩⟩, ?_⟩
    rintro b42 w10 f10 ⟨own10, ⟨ts10, F10, net10, ge10, ap10⟩, lt10⟩
    have hx0 := at_put (k := k) (j := 0) hmay (by omega)
    have lt10F := net10.lt
    refine (nDeliver net10 0).mono ?_
    rintro e w11 ⟨r11, F11, n11, u11⟩
    have hx0' : atV ((fs.drop k).map putW) 0 = (fs[k], 0) := hx0
    rw [hx0'] at r11
    obtain ⟨A11, m11, c11, rfl, s11⟩ := r11
    rw [deliver_first hmay hk'] at n11
    have f11 := up_fr f10 u11 ge10
    have own11 := own10.past net10 u11
    have z11 := u11.fr.size
    have ap11 := apart_up u11 lt10 ap10
    refine ⟨_, _, _, _, _, _, A11, m11, c11, _, rfl, ⟨f11, mild_up u11 fun b hb hm => ap10 b (by simp at hb ⊢; omega) hm⟩, ?_⟩
    intro g53 hg53 w12 f12 b12 lo53 t53
    obtain ⟨p2, A2, n2', c2, hA2, hp2, hc2, hb2⟩ := (own11.below b12).get f12 k hk'
    injection hA2 with hA2
    injection hA2 with hA2
    subst hA2
    refine ⟨[], (fun b hb => by cases hb), by omega, by omega, _, 0, rfl, fun w13 f13 b13 => ⟨_, _, _, _, _, _, A2, n2', c2, cells_below hc2 b13, ⟨hp2, by simp⟩, ?_⟩⟩
    refine (Frm.same_c ((s11.below b12).below b13) (hb2.below b13)).mono ?_
    rintro e w14 ⟨rfl, b14⟩
    have f14 := f13.step b14
    have B14 := b12.trans ((b13.trans (b14.mono b13.size)).mono b12.size)
    have n14' := n11.below B14
    refine ⟨_, rfl, ok_ret b14 f13, fun hne => absurd rfl hne, fun _ => ⟨fun hf => (by have := (same_true fs[k]).symm.trans hf; cases this), fun _ => ?_⟩⟩
    refine (nLen n14').mono ?_
    rintro e w15 ⟨rfl, b15⟩
    have B15 := B14.trans (b15.mono B14.size)
    have z15 := B15.size
    refine ⟨_, rfl, ok_ret b15 f14, fun hne => absurd ?_ hne, fun _ => ⟨⟨k + 1, by rw [wrap_in (by omega)]; rfl, by omega, own11.below B15, ⟨_, F11, n11.below B15, up_ge u11 ge10 f10.size, fun b hb => ap11 b (by simp at hb ⊢; omega)⟩, fun b hb => ?_⟩, ?_⟩⟩
    · have ei2 : IntKind.i64.wrap (((fs.length - 1 : Nat) : Int) - (k : Int)) = ((fs.length - 1 - k : Nat) : Int) := by rw [wrap_in (by omega)]; omega
      first
        | (rw [ei2]; simp; omega)
        | (simp; omega)
    · have := lt10 b (by simp at hb ⊢; omega); omega
    · unfold OM2
      rw [wrap_in (by omega)]
      omega
  · have : k = fs.length := by omega
    subst this
    rw [List.drop_of_length_le (Nat.le_refl _)] at net
    refine (nDeliver net 0).mono ?_
    rintro e w6 ⟨⟨A6, m6, c6, rfl, s6⟩, F6, n6, u6⟩
    have f6 := up_fr f5 u6 ge
    refine ⟨_, _, _, _, _, _, A6, m6, c6, _, rfl, ⟨f6, mild_up u6 fun b hb hm => ap b (by simp at hb ⊢; exact hb) hm⟩, ?_⟩
    intro g28 hg28
    refine ⟨fun _ w7 f7 b7 lo28 t28 => ?_, fun hne => absurd rfl hne⟩
    refine (nLen (n6.below b7)).mono ?_
    rintro e w8 ⟨rfl, b8⟩
    exact ⟨_, rfl, ok_ret b8 f7, ret_leaf (f7.step b8) rfl⟩
def OI0 (w : World) (gn g7 : Nat) (A : Option Addr) (n c : Nat) (b : Bool) (w' : World) : Prop := ∃ fs : List FV, (∀ f ∈ fs, mayV f = 0) ∧ fs.length ≤ 30 ∧ OS2 w w' gn g7 A n c 0 fs []
theorem gone_map {fs : List FV} (d : Nat) : goneV (fs.map putW) (d : Int) = (fs.take d ++ fs.drop (d + 1)).map putW := by
  unfold goneV
  rw [Int.toNat_natCast, List.map_append, List.map_take, List.map_drop]
set_option maxHeartbeats 16000000 in
theorem order_rest {w w3 : World} {A8 : Option Addr} {n9 n10 gn g7 : Nat} {b11 : Bool} {i3 : Int} {fs : List FV} (f3 : Fr (fun _ => False) w w3) (hmay : ∀ f ∈ fs, mayV f = 0) (few : fs.length ≤ 30) (st : OS2 w w3 gn g7 A8 n9 n10 0 fs []) (ge7 : w.heap.size ≤ g7) :
∃ (I1 : Option Addr → Nat → Nat → Bool → World → Prop) (M1 : Option Addr → Nat → Nat → Bool → World → Nat),
    (((0 : Int) ≤ i3 →
    ((i3 < (n9 : Int) →
     (
      Calls Try.prog 30 #[((Value.pointer (some ⟨gn, 0, none⟩))), (.int .i64 i3)] w3 fun r w4 => ∃ i12 : Int, r = .returned (.int .i64 i12) ∧ (Go.Sx.Fr (fun _ => False) w w4 ∧ Go.Sx.Mild [g7] w3 w4) ∧ 
      ((¬ i12 = (0 : Int) →
      ((Ret (Value.bool true) w) (.returned (.bool false)) w4)) ∧
      (i12 = (0 : Int) →
      (∃ T13 : List Nat, (∀ b ∈ T13, b < w4.heap.size ∧ b ∉ [g7]) ∧
       (∀ w5 : World, Go.Sx.Fr (fun _ => False) w w5 → Below w4.heap.size w4 w5 → ∃ A14 : Option Addr, ∃ n15 : Nat, ∃ n16 : Nat, (∀ w', Go.Sx.Keep w4.heap.size (T13 ++ []) w5 w' → (Instr.sliceAt 42 (.slice A8 n9 n10) none (some (.int .i64 i3)) none).run Try.prog w' = .ok (.slice A14 n15 n16) w') ∧
       ((∀ g17 : Nat, w.heap.size ≤ g17 → (((∀ w6 : World, Go.Sx.Fr (fun _ => False) w w6 → Below w5.heap.size w5 w6 → w5.heap.size ≤ g17 → w6.heap[g17]? = some (.cells #[] 47 (0, 0)) → 
       ∃ w7 : World, ∃ A18 : Option Addr, ∃ n19 : Nat, ∃ n20 : Nat, (Builtin.append_ #[42, 42] 42 #[(.slice (some ⟨g17, 0, none⟩) 0 0), (.slice A14 n15 n16)]).run Try.prog w6 = .ok (.slice A18 n19 n20) w7 ∧ (Go.Sx.Fr (fun _ => False) w w7 ∧ Go.Sx.Mild [g17, g7] w6 w7) ∧ 
       (∃ A21 : Option Addr, ∃ n22 : Nat, ∃ n23 : Nat, (Instr.sliceAt 42 (.slice A8 n9 n10) (some (.int .i64 (IntKind.i64.wrap (i3 + (1 : Int))))) none none).run Try.prog w7 = .ok (.slice A21 n22 n23) w7 ∧
       (
       ∃ w8 : World, ∃ A24 : Option Addr, ∃ n25 : Nat, ∃ n26 : Nat, (Builtin.append_ #[42, 42] 42 #[(.slice A18 n19 n20), (.slice A21 n22 n23)]).run Try.prog w7 = .ok (.slice A24 n25 n26) w8 ∧ (Go.Sx.Fr (fun _ => False) w w8 ∧ Go.Sx.Mild [g17, g7] w7 w8) ∧ 
       (I1 A24 n25 n26 b11 w8 ∧ M1 A24 n25 n26 b11 w8 < 1))))) ∧
       ((∀ w6 : World, Go.Sx.Fr (fun _ => False) w w6 → Below w5.heap.size w5 w6 → w5.heap.size ≤ g17 → w6.heap[g17]? = some (.cells #[] 47 (0, 0)) → ∃ A18 : Option Addr, ∃ n19 : Nat, ∃ n20 : Nat, (∀ w', Go.Sx.Keep w4.heap.size (T13 ++ []) w6 w' → (Instr.sliceAt 42 (.slice A8 n9 n10) (some (.int .i64 (IntKind.i64.wrap (i3 + (1 : Int))))) none none).run Try.prog w' = .ok (.slice A18 n19 n20) w') ∧
       (w6.heap[g17]? = some (.cells #[] 47 (0, 0)) → 
       ∃ w7 : World, ∃ A21 : Option Addr, ∃ n22 : Nat, ∃ n23 : Nat, (Builtin.append_ #[42, 42] 42 #[(.slice (some ⟨g17, 0, none⟩) 0 0), (.slice A14 n15 n16)]).run Try.prog w6 = .ok (.slice A21 n22 n23) w7 ∧ (Go.Sx.Fr (fun _ => False) w w7 ∧ Go.Sx.Mild [g17, g7] w6 w7) ∧ 
       (
       ∃ w8 : World, ∃ A24 : Option Addr, ∃ n25 : Nat, ∃ n26 : Nat, (Builtin.append_ #[42, 42] 42 #[(.slice A21 n22 n23), (.slice A18 n19 n20)]).run Try.prog w7 = .ok (.slice A24 n25 n26) w8 ∧ (Go.Sx.Fr (fun _ => False) w w8 ∧ Go.Sx.Mild [g17, g7] w7 w8) ∧ 
       (I1 A24 n25 n26 b11 w8 ∧ M1 A24 n25 n26 b11 w8 < 1))))))) ∧
       ((∃ A17 : Option Addr, ∃ n18 : Nat, ∃ n19 : Nat, (∀ w', Go.Sx.Keep w4.heap.size (T13 ++ []) w5 w' → (Instr.sliceAt 42 (.slice A8 n9 n10) (some (.int .i64 (IntKind.i64.wrap (i3 + (1 : Int))))) none none).run Try.prog w' = .ok (.slice A17 n18 n19) w') ∧
       ∀ g20 : Nat, w.heap.size ≤ g20 → (∀ w6 : World, Go.Sx.Fr (fun _ => False) w w6 → Below w5.heap.size w5 w6 → w5.heap.size ≤ g20 → w6.heap[g20]? = some (.cells #[] 47 (0, 0)) → 
       ∃ w7 : World, ∃ A21 : Option Addr, ∃ n22 : Nat, ∃ n23 : Nat, (Builtin.append_ #[42, 42] 42 #[(.slice (some ⟨g20, 0, none⟩) 0 0), (.slice A14 n15 n16)]).run Try.prog w6 = .ok (.slice A21 n22 n23) w7 ∧ (Go.Sx.Fr (fun _ => False) w w7 ∧ Go.Sx.Mild [g20, g7] w6 w7) ∧ 
       (
       ∃ w8 : World, ∃ A24 : Option Addr, ∃ n25 : Nat, ∃ n26 : Nat, (Builtin.append_ #[42, 42] 42 #[(.slice A21 n22 n23), (.slice A17 n18 n19)]).run Try.prog w7 = .ok (.slice A24 n25 n26) w8 ∧ (Go.Sx.Fr (fun _ => False) w w8 ∧ Go.Sx.Mild [g20, g7] w7 w8) ∧ 
       (I1 A24 n25 n26 b11 w8 ∧ M1 A24 n25 n26 b11 w8 < 1)))))))))))) ∧
     ((n9 : Int) ≤ i3 →
     (
      Calls Try.prog 30 #[((Value.pointer (some ⟨gn, 0, none⟩))), (.int .i64 i3)] w3 fun r w4 => ∃ i12 : Int, r = .returned (.int .i64 i12) ∧ (Go.Sx.Fr (fun _ => False) w w4 ∧ Go.Sx.Mild [g7] w3 w4) ∧ 
      ((¬ i12 = (1 : Int) →
      ((Ret (Value.bool true) w) (.returned (.bool false)) w4)) ∧
      (i12 = (1 : Int) →
      (I1 A8 n9 n10 b11 w4 ∧ M1 A8 n9 n10 b11 w4 < 1))))))) ∧
    (i3 < (0 : Int) →
    (
     Calls Try.prog 30 #[((Value.pointer (some ⟨gn, 0, none⟩))), (.int .i64 i3)] w3 fun r w4 => ∃ i12 : Int, r = .returned (.int .i64 i12) ∧ (Go.Sx.Fr (fun _ => False) w w4 ∧ Go.Sx.Mild [g7] w3 w4) ∧ 
     ((¬ i12 = (1 : Int) →
     ((Ret (Value.bool true) w) (.returned (.bool false)) w4)) ∧
     (i12 = (1 : Int) →
     (I1 A8 n9 n10 b11 w4 ∧ M1 A8 n9 n10 b11 w4 < 1)))))) ∧
    ∀ A12 : Option Addr, ∀ n13 : Nat, ∀ n14 : Nat, ∀ b15 : Bool, ∀ w4 : World, Go.Sx.Fr (fun _ => False) w w4 → I1 A12 n13 n14 b15 w4 → 
     (∃ (I2 : Bool → Int → World → Prop) (M2 : Bool → Int → World → Nat), (I2 b15 (0 : Int) w4) ∧
     ∀ b16 : Bool, ∀ i17 : Int, ∀ w5 : World, Go.Sx.Fr (fun _ => False) w w5 → I2 b16 i17 w5 → 
      ((i17 < (n13 : Int) →
      (
       Calls Try.prog 31 #[((Value.pointer (some ⟨gn, 0, none⟩))), (.int .i64 (IntKind.i64.wrap ((IntKind.i64.wrap ((n13 : Int) - (1 : Int))) - i17)))] w5 fun r w6 => ∃ i18 : Int, ∃ i19 : Int, ∃ i20 : Int, ∃ i21 : Int, ∃ i22 : Int, ∃ i23 : Int, ∃ A24 : Option Addr, ∃ n25 : Nat, ∃ n26 : Nat, ∃ i27 : Int, r = .returned (.tuple #[.agg #[.int .i64 i18, .int .i64 i19, .int .i64 i20, .int .i64 i21, .int .i64 i22, .int .i64 i23, .slice A24 n25 n26], .int .i64 i27]) ∧ (Go.Sx.Fr (fun _ => False) w w6 ∧ Go.Sx.Mild [g7] w5 w6) ∧ 
       ∀ g28 : Nat, w.heap.size ≤ g28 → (∀ w7 : World, Go.Sx.Fr (fun _ => False) w w7 → Below w6.heap.size w6 w7 → w6.heap.size ≤ g28 → w7.heap[g28]? = some (.cells #[.int .i64 i18, .int .i64 i19, .int .i64 i20, .int .i64 i21, .int .i64 i22, .int .i64 i23, .slice A24 n25 n26] 47 (0, 0)) → ∃ T29 : List Nat, (∀ b ∈ T29, b < w7.heap.size ∧ b ∉ [g28, g7]) ∧
       ((0 : Int) ≤ (IntKind.i64.wrap ((n13 : Int) - (1 : Int))) ∧ (IntKind.i64.wrap ((n13 : Int) - (1 : Int))) < (n13 : Int) ∧ ∃ p30 : Nat, ∃ o31 : Nat, A12 = some ⟨p30, o31, none⟩ ∧
       (∀ w8 : World, Go.Sx.Fr (fun _ => False) w w8 → Below w7.heap.size w7 w8 → ∃ i32 : Int, ∃ i33 : Int, ∃ i34 : Int, ∃ i35 : Int, ∃ i36 : Int, ∃ i37 : Int, ∃ A38 : Option Addr, ∃ n39 : Nat, ∃ n40 : Nat, Go.Sx.CellsAt w8 p30 (o31 + ((IntKind.i64.wrap ((n13 : Int) - (1 : Int)))).toNat * 7 + 0) [.int .i64 i32, .int .i64 i33, .int .i64 i34, .int .i64 i35, .int .i64 i36, .int .i64 i37, .slice A38 n39 n40] ∧ (p30 < w7.heap.size ∧ p30 ∉ (T29 ++ [])) ∧ 
       (
       Calls Try.prog 32 #[(.agg #[.int .i64 i18, .int .i64 i19, .int .i64 i20, .int .i64 i21, .int .i64 i22, .int .i64 i23, .slice A24 n25 n26]), (.agg #[.int .i64 i32, .int .i64 i33, .int .i64 i34, .int .i64 i35, .int .i64 i36, .int .i64 i37, .slice A38 n39 n40])] w8 fun r w9 => ∃ b41 : Bool, r = .returned (.bool b41) ∧ (Go.Sx.Fr (fun _ => False) w w9 ∧ Go.Sx.Mild [g28, g7] w8 w9) ∧ 
       (∃ (I3 : Bool → World → Prop) (M3 : Bool → World → Nat),
       ((i17 = (0 : Int) →
       ((¬ i27 = (0 : Int) →
        ((Ret (Value.bool true) w) (.returned (.bool false)) w9)) ∧
        (i27 = (0 : Int) →
        ((b41 = false →
         ((Ret (Value.bool true) w) (.returned (.bool false)) w9)) ∧
         (b41 = true →
         (I3 b16 w9 ∧ M3 b16 w9 < 1)))))) ∧
       (¬ i17 = (0 : Int) →
       (I3 b16 w9 ∧ M3 b16 w9 < 1))) ∧
       ∀ b42 : Bool, ∀ w10 : World, Go.Sx.Fr (fun _ => False) w w10 → I3 b42 w10 → 
        (
        Calls Try.prog 33 #[((Value.pointer (some ⟨gn, 0, none⟩))), (.int .i64 (0 : Int))] w10 fun r w11 => ∃ i43 : Int, ∃ i44 : Int, ∃ i45 : Int, ∃ i46 : Int, ∃ i47 : Int, ∃ i48 : Int, ∃ A49 : Option Addr, ∃ n50 : Nat, ∃ n51 : Nat, ∃ i52 : Int, r = .returned (.tuple #[.agg #[.int .i64 i43, .int .i64 i44, .int .i64 i45, .int .i64 i46, .int .i64 i47, .int .i64 i48, .slice A49 n50 n51], .int .i64 i52]) ∧ (Go.Sx.Fr (fun _ => False) w w11 ∧ Go.Sx.Mild [g28, g7] w10 w11) ∧ 
        ∀ g53 : Nat, w.heap.size ≤ g53 → (∀ w12 : World, Go.Sx.Fr (fun _ => False) w w12 → Below w11.heap.size w11 w12 → w11.heap.size ≤ g53 → w12.heap[g53]? = some (.cells #[.int .i64 i43, .int .i64 i44, .int .i64 i45, .int .i64 i46, .int .i64 i47, .int .i64 i48, .slice A49 n50 n51] 47 (0, 0)) → ∃ T54 : List Nat, (∀ b ∈ T54, b < w12.heap.size ∧ b ∉ [g53, g28, g7]) ∧
        ((0 : Int) ≤ i17 ∧ i17 < (n13 : Int) ∧ ∃ p55 : Nat, ∃ o56 : Nat, A12 = some ⟨p55, o56, none⟩ ∧
        (∀ w13 : World, Go.Sx.Fr (fun _ => False) w w13 → Below w12.heap.size w12 w13 → ∃ i57 : Int, ∃ i58 : Int, ∃ i59 : Int, ∃ i60 : Int, ∃ i61 : Int, ∃ i62 : Int, ∃ A63 : Option Addr, ∃ n64 : Nat, ∃ n65 : Nat, Go.Sx.CellsAt w13 p55 (o56 + (i17).toNat * 7 + 0) [.int .i64 i57, .int .i64 i58, .int .i64 i59, .int .i64 i60, .int .i64 i61, .int .i64 i62, .slice A63 n64 n65] ∧ (p55 < w12.heap.size ∧ p55 ∉ (T54 ++ [])) ∧ 
        (
        Calls Try.prog 32 #[(.agg #[.int .i64 i43, .int .i64 i44, .int .i64 i45, .int .i64 i46, .int .i64 i47, .int .i64 i48, .slice A49 n50 n51]), (.agg #[.int .i64 i57, .int .i64 i58, .int .i64 i59, .int .i64 i60, .int .i64 i61, .int .i64 i62, .slice A63 n64 n65])] w13 fun r w14 => ∃ b66 : Bool, r = .returned (.bool b66) ∧ (Go.Sx.Fr (fun _ => False) w w14 ∧ Go.Sx.Mild [g53, g28, g7] w13 w14) ∧ 
        ((¬ i52 = (0 : Int) →
        ((Ret (Value.bool true) w) (.returned (.bool false)) w14)) ∧
        (i52 = (0 : Int) →
        ((b66 = false →
         ((Ret (Value.bool true) w) (.returned (.bool false)) w14)) ∧
         (b66 = true →
         (
          Calls Try.prog 29 #[((Value.pointer (some ⟨gn, 0, none⟩)))] w14 fun r w15 => ∃ i67 : Int, r = .returned (.int .i64 i67) ∧ (Go.Sx.Fr (fun _ => False) w w15 ∧ Go.Sx.Mild [g53, g28, g7] w14 w15) ∧ 
          ((¬ i67 = (IntKind.i64.wrap ((IntKind.i64.wrap ((n13 : Int) - (1 : Int))) - i17)) →
          ((Ret (Value.bool true) w) (.returned (.bool false)) w15)) ∧
          (i67 = (IntKind.i64.wrap ((IntKind.i64.wrap ((n13 : Int) - (1 : Int))) - i17)) →
          (I2 b42 (IntKind.i64.wrap (i17 + (1 : Int))) w15 ∧ M2 b42 (IntKind.i64.wrap (i17 + (1 : Int))) w15 < M2 b16 i17 w5)))))))))))))))))))) ∧
      ((n13 : Int) ≤ i17 →
      (
       Calls Try.prog 33 #[((Value.pointer (some ⟨gn, 0, none⟩))), (.int .i64 (0 : Int))] w5 fun r w6 => ∃ i18 : Int, ∃ i19 : Int, ∃ i20 : Int, ∃ i21 : Int, ∃ i22 : Int, ∃ i23 : Int, ∃ A24 : Option Addr, ∃ n25 : Nat, ∃ n26 : Nat, ∃ i27 : Int, r = .returned (.tuple #[.agg #[.int .i64 i18, .int .i64 i19, .int .i64 i20, .int .i64 i21, .int .i64 i22, .int .i64 i23, .slice A24 n25 n26], .int .i64 i27]) ∧ (Go.Sx.Fr (fun _ => False) w w6 ∧ Go.Sx.Mild [g7] w5 w6) ∧ 
       ∀ g28 : Nat, w.heap.size ≤ g28 → ((i27 = (1 : Int) →
       (∀ w7 : World, Go.Sx.Fr (fun _ => False) w w7 → Below w6.heap.size w6 w7 → w6.heap.size ≤ g28 → w7.heap[g28]? = some (.cells #[.int .i64 i18, .int .i64 i19, .int .i64 i20, .int .i64 i21, .int .i64 i22, .int .i64 i23, .slice A24 n25 n26] 47 (0, 0)) → 
        Calls Try.prog 29 #[((Value.pointer (some ⟨gn, 0, none⟩)))] w7 fun r w8 => ∃ i29 : Int, r = .returned (.int .i64 i29) ∧ (Go.Sx.Fr (fun _ => False) w w8 ∧ Go.Sx.Mild [g28, g7] w7 w8) ∧ 
        ((Ret (Value.bool true) w) (.returned (.bool (i29 == (0 : Int)))) w8))) ∧
       (¬ i27 = (1 : Int) →
       (∀ w7 : World, Go.Sx.Fr (fun _ => False) w w7 → Below w6.heap.size w6 w7 → w6.heap.size ≤ g28 → w7.heap[g28]? = some (.cells #[.int .i64 i18, .int .i64 i19, .int .i64 i20, .int .i64 i21, .int .i64 i22, .int .i64 i23, .slice A24 n25 n26] 47 (0, 0)) → (Ret (Value.bool true) w) (.returned (.bool false)) w7)))))))
  := by
  have hn := st.own.len
  obtain ⟨own, ⟨ts, F, net, ge, ap⟩, lt7⟩ := id st
  have l7 := lt7 g7 (by simp)
  have hxl : ((fs.drop 0).map putW).length = fs.length := by simp
  have no : inV ((fs.drop 0).map putW) i3 = false → Calls Try.prog 30 #[Np gn, .int .i64 i3] w3 fun r w4 => ∃ i12 : Int, r = .returned (.int .i64 i12) ∧ (Fr (fun _ => False) w w4 ∧ Mild [g7] w3 w4) ∧
      ((¬ i12 = (1 : Int) → (Ret (.bool true) w (.returned (.bool false)) w4)) ∧ (i12 = (1 : Int) → (OI0 w gn g7 A8 n9 n10 b11 w4 ∧ (0 : Nat) < 1))) := by
    intro hin
    refine (nDrop net i3).mono ?_
    rintro e w4 ⟨F4, n4, u4, rfl⟩
    have hE : dropE (((fs.drop 0).map putW), ts) i3 = 1 := by unfold dropE; rw [if_neg (by rw [hin]; decide)]
    have hV : dropV (((fs.drop 0).map putW), ts) i3 = (((fs.drop 0).map putW), ts) := by unfold dropV; rw [if_neg (by rw [hin]; decide)]
    rw [hE]
    rw [hV] at n4
    have ap4 := apart_up u4 lt7 ap
    refine ⟨_, rfl, ⟨up_fr f3 u4 ge, mild_up u4 ap⟩, fun hne => absurd rfl hne, fun _ => ⟨⟨fs, hmay, few, own.past net u4, ⟨ts, F4, n4, up_ge u4 ge f3.size, ap4⟩, fun b hb => Nat.lt_of_lt_of_le (lt7 b hb) u4.fr.size⟩, Nat.zero_lt_one⟩⟩
  refine ⟨OI0 w gn g7, fun _ _ _ _ _ => 0, ⟨fun h0 => ⟨fun hlt => ?_, fun hge => no (decide_eq_false (by omega))⟩, fun h0 => no (decide_eq_false (by omega))⟩, ?_⟩
  · obtain ⟨d, rfl⟩ : ∃ d : Nat, i3 = d := ⟨i3.toNat, by omega⟩
    have hin : inV ((fs.drop 0).map putW) (d : Int) = true := decide_eq_true (by omega)
    refine (nDrop net d).mono ?_
    rintro e w4 ⟨F4, n4, u4, rfl⟩
    have hE : dropE (((fs.drop 0).map putW), ts) (d : Int) = 0 := by unfold dropE; rw [if_pos hin]
    have hV : (dropV (((fs.drop 0).map putW), ts) (d : Int)).1 = (fs.take d ++ fs.drop (d + 1)).map putW := by unfold dropV; rw [if_pos hin]; exact gone_map d
    rw [hE]
    rw [hV] at n4
    have f4 := up_fr f3 u4 ge
    have ge4 := up_ge u4 ge f3.size
    have ap4 := apart_up u4 lt7 ap
    have own4 := own.past net u4
    have z4 := u4.fr.size
    refine ⟨_, rfl, ⟨f4, mild_up u4 ap⟩, fun hne => absurd rfl hne, fun _ => ⟨[], (fun b hb => by cases hb), fun w5 f5 b5 => ?_⟩⟩
    obtain ⟨hs, o5, a5⟩ := own4.below b5
    have n5 := n4.below b5
    have hl := a5.1
    have z5 := b5.size
    obtain ⟨ii, hi, hz, hsz, hby⟩ := info_parts infoF
    obtain ⟨c1, s1⟩ := cut_hi (P := Try.prog) 42 47 Try.underlying42 hi o5.sl (k := d) (by omega)
    obtain ⟨A2, c2, s2⟩ := cut_lo (P := Try.prog) 42 47 Try.underlying42 hi hsz o5.sl (k := d + 1) (by omega)
    have c2' : ∀ w', (Instr.sliceAt 42 (.slice A8 n9 n10) (some (.int .i64 (IntKind.i64.wrap ((d : Int) + (1 : Int))))) none none).run Try.prog w' = .ok (.slice A2 (n9 - (d + 1)) (n10 - (d + 1))) w' := fun w' => by rw [wrap_in (by omega)]; exact c2 w'
    have fin : ∀ (gx : Nat) (w6 : World), Fr (fun _ => False) w w6 → Below w5.heap.size w5 w6 → w5.heap.size ≤ gx → w6.heap[gx]? = some (.cells #[] 47 (0, 0)) →
        ∃ w7 : World, ∃ A18 : Option Addr, ∃ n19 : Nat, ∃ n20 : Nat, (Builtin.append_ #[42, 42] 42 #[(.slice (some ⟨gx, 0, none⟩) 0 0), (.slice A8 d n10)]).run Try.prog w6 = .ok (.slice A18 n19 n20) w7 ∧ (Fr (fun _ => False) w w7 ∧ Mild [gx, g7] w6 w7) ∧
          ∃ w8 : World, ∃ A24 : Option Addr, ∃ n25 : Nat, ∃ n26 : Nat, (Builtin.append_ #[42, 42] 42 #[(.slice A18 n19 n20), (.slice A2 (n9 - (d + 1)) (n10 - (d + 1)))]).run Try.prog w7 = .ok (.slice A24 n25 n26) w8 ∧ (Fr (fun _ => False) w w8 ∧ Mild [gx, g7] w7 w8) ∧ (OI0 w gn g7 A24 n25 n26 b11 w8 ∧ (0 : Nat) < 1) := by
      intro gx w6 f6 b6 lx tx
      have z6 := b6.size
      have lgx := heap_lt tx
      obtain ⟨w7, A7, n7, c7, hr7, o7, gr7, tl7⟩ := own_app (P := Try.prog) (base := w.heap.size) (OwnF.cells (α := Fh) [] 0 rfl (by have := f5.size; omega) tx (by decide) (by simp)) 42 42 _ 72 Try.underlying42 infoF rfl (s1.below b6).arg f6.size (by simp; omega) (by simp; omega)
      rw [tail_full] at gr7 tl7
      have b7 := below_of_grown gr7
      have f7 := f6.step b7
      have z7 := b7.size
      have B7 := b6.trans (b7.mono b6.size)
      obtain ⟨w8, A8', n8, c8, hr8, o8, gr8, tl8⟩ := own_app (P := Try.prog) o7 42 42 _ 72 Try.underlying42 infoF rfl (s2.below B7).arg f7.size (by simp; omega) (by simp; omega)
      have f8 : Fr (fun _ => False) w w8 := grown_fr (B := 0) gr8 f7 fun j hj => (tail_base o7 hj).2.1
      refine ⟨w7, A7, n7, c7, hr7, ok_ret b7 f6, w8, A8', n8, c8, hr8, ⟨f8, grown_mild gr8 fun b hb he => ?_⟩, ⟨fs.take d ++ fs.drop (d + 1), fun f hf => ?_, ?_, ⟨_, o8, ?_⟩, ⟨(dropV (((fs.drop 0).map putW), ts) (d : Int)).2, F4, ?_, ge4, ap4⟩, fun b hb => ?_⟩, Nat.zero_lt_one⟩
      · have e1 := (tl7 b he.symm).resolve_left (by simp)
        simp at hb; omega
      · rcases List.mem_append.1 hf with hf | hf
        · exact hmay f (List.mem_of_mem_take hf)
        · exact hmay f (List.mem_of_mem_drop hf)
      · simp; omega
      · rw [List.nil_append]; exact (Al.take a5 d).append (Al.drop a5 (d + 1))
      · exact net_grown (n5.below B7) o7 gr8
      · have := lt7 b hb
        have := gr8.size
        omega
    refine ⟨A8, d, n10, fun w' _ => c1 w', ?_, ?_⟩
    · intro g17 hg17
      refine ⟨fun w6 f6 b6 lo17 t17 => ?_, fun w6 f6 b6 lo17 t17 => ⟨_, _, _, fun w' _ => c2' w', fun t17' => fin g17 w6 f6 b6 lo17 t17'⟩⟩
      obtain ⟨w7, A7, n7, c7, hr7, q7, w8, A8', n8, c8, hr8, q8, j8⟩ := fin g17 w6 f6 b6 lo17 t17
      exact ⟨w7, A7, n7, c7, hr7, q7, _, _, _, c2' w7, w8, A8', n8, c8, hr8, q8, j8⟩
    · exact ⟨_, _, _, fun w' _ => c2' w', fun g20 hg20 w6 f6 b6 lo20 t20 => fin g20 w6 f6 b6 lo20 t20⟩
  · rintro A12 n13 n14 b15 w4 f4 ⟨fs', hmay', few', st'⟩
    exact order_two f4 hmay' few' st'
set_option maxHeartbeats 16000000 in
theorem netOrder_walk (w : World) (A : Option Addr) (n c : Nat) (xs : List FrT) (h : Sl w (fun b => b < w.heap.size) (.slice A n c) xs) (a : Int) (ha : -9223372036854775808 ≤ a ∧ a ≤ 9223372036854775807) :
    Calls Try.prog 7 #[.slice A n c, .int .i64 a] w fun e w' => e = .returned (.bool true) ∧ Below w.heap.size w w' := by
  have hlen := h.len_eq
  refine netOrder_sx (Ret (.bool true) w) (fun _ => False) w A n c a ?_
  refine (netShown_c w).mono ?_
  rintro e w1 ⟨rfl, b1⟩
  have f1 := (Fr.refl (fun _ => False) w).step b1
  refine ⟨_, rfl, ok_ret b1 (Fr.refl _ _), ?_⟩
  refine (netNew_c w1).mono ?_
  rintro e w2 ⟨gn, F, n2, ge2, b2, rfl⟩
  have f2 := f1.step b2
  have lt2 := n2.lt
  refine ⟨_, rfl, ok_ret b2 f1, (fun h => by cases h), fun _ => ⟨_, eql_net w2 _, (fun h => by cases h), fun _ => ?_⟩⟩
  intro g7 hg7
  refine ⟨OI0 w gn g7, fun _ _ _ _ _ => 0, ⟨OI1 w n gn g7, OM1 n, fun w3 f3 b3 lo7 t7 => ⟨0, [], rfl, Nat.zero_le _, by decide, Nat.le_refl _, ⟨[], OwnF.cells (α := Fh) [] 0 rfl (by have := f2.size; omega) t7 (by decide) (by simp), Al.nil⟩, by simp, ⟨_, F, n2.below b3, fun b hb => Nat.le_trans f1.size (ge2 b hb), fun hm => by have := lt2 g7 hm; omega⟩, heap_lt t7, (fun j hj => by rw [tail_full] at hj; cases hj), by decide⟩, ?_⟩, ?_⟩
  · rintro A8 n9 n10 b11 i12 w4 f4 ⟨k, fs, rfl, hk, hk30, hfs, st⟩
    have out : OI0 w gn g7 A8 n9 n10 b11 w4 ∧ (0 : Nat) < 1 := by
      obtain ⟨own, may, ⟨ts, F, net, ge, a7⟩, lt7, tl, few⟩ := st
      exact ⟨⟨fs, may, few, own, ⟨ts, F, net, ge, fun b hb => by simp at hb; subst hb; exact a7⟩, fun b hb => by simp at hb; subst hb; exact lt7⟩, Nat.zero_lt_one⟩
    exact ⟨fun hlt => ⟨fun h30 => order_step f4 h (by omega) (by omega) hfs st hg7, fun h30 => out⟩, fun hge => out⟩
  · rintro A8 n9 n10 b11 w3 f3 ⟨fs, may, few, st⟩
    exact order_rest f3 may few st hg7
end Go.Proofs.Ytdjjfpcfclheiaa
