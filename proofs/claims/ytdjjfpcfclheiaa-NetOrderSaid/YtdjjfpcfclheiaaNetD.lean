/- Net: contracts of the methods, on. -/
import Derived.Test.YtdjjfpcfclheiaaNetC
set_option linter.unusedSimpArgs false
set_option linter.unusedVariables false
namespace Go.Proofs.Ytdjjfpcfclheiaa
open Go Go.RowKit Go.Proofs Go.Trc Go.Sx
section
variable {w : World} {g t : Nat} {xss : List (List UInt8)} {ts : List Int} {Ft : List Nat}
theorem fr_up {S : Nat → Prop} {F : List Nat} {a b c : World} (f : Fr S a b) (u : Fr (fun k => k ∈ F) b c) (h : ∀ k ∈ F, S k ∨ a.heap.size ≤ k) : Fr S a c :=
  f.trans u (fun _ _ h => h) (fun k hk hm => (h k hm).resolve_right (by omega))
theorem drop_c (h : NetS w g t xss ts Ft) (i : Int) : Calls Try.prog 30 #[.pointer (some ⟨g, 0, none⟩), .int .i64 i] w fun e w' => ∃ Ft', NetS w' g t (dropV (xss, ts) i).1 (dropV (xss, ts) i).2 Ft' ∧ Up (g :: Ft) w (g :: Ft') w' ∧ e = .returned (.int .i64 (dropE (xss, ts) i)) := by
  refine netDrop_sx _ (fun b => b ∈ g :: Ft) w _ i ?_
  refine (there_c h i).mono ?_
  rintro e w1 ⟨rfl, b1⟩
  have h1 := h.below b1
  have u1 : Up (g :: Ft) w (g :: Ft) w1 := below_up b1
  refine ⟨_, rfl, ⟨u1.fr, mild_nil b1.size⟩, fun hf => ⟨Ft, ?_, u1, ?_⟩, fun ht => ?_⟩
  · unfold dropV; rw [if_neg (by simp [hf])]; exact h1
  · unfold dropE; rw [if_neg (by simp [hf])]
  obtain ⟨k, rfl, hk⟩ := in_nat ht
  refine (off_c h1 k hk).mono ?_
  rintro e w2 ⟨h2, f2, rfl⟩
  have u2 := u1.trans (up_self (F := Ft) f2)
  refine ⟨rfl, ⟨u2.fr, mild_nil f2.size⟩, ?_⟩
  refine (note_c h2 4).mono ?_
  rintro e w3 ⟨Ft', h3, u3, rfl⟩
  have u3' := u2.trans (up_cons (g := g) u3)
  refine ⟨rfl, ⟨u3'.fr, mild_nil u3.fr.size⟩, Ft', ?_, u3', ?_⟩
  · unfold dropV; rw [if_pos ht]; exact h3
  · unfold dropE; rw [if_pos ht]
/-- One more is laid behind the others. -/
theorem NetS.push (h : NetS w g t xss ts Ft) {A A' : Option Addr} {n n' c' gx : Nat} {hs : List Hd} {xs : List UInt8} (h1 : Sl w (still w) (.slice A n n) hs) (h2 : Row2 w hs xss) (hx : w.heap[gx]? = some (.cells #[.slice A' n' c'] 45 (0, 0)))
    (s : Sl w (still w) (.slice A' n' c') xs) (hl : xss.length < 4096) (hsm : xs.length ≤ 100000) :
    ∃ w1 A1 n1 c1, (Builtin.append_ #[62, 62] 62 #[.slice A n n, .slice (some ⟨gx, 0, none⟩) 1 1]).run Try.prog w = .ok (.slice A1 n1 c1) w1 ∧ Below w.heap.size w w1 ∧
      ∃ w2, (Instr.storeAt 62 (.pointer (some ⟨g, 0, none⟩)) (.slice A1 n1 c1)).run Try.prog w1 = .ok () w2 ∧ Fr (fun b => b ∈ [g]) w1 w2 ∧ NetS w2 g t (xss ++ [xs]) ts Ft := by
  have hsl := h2.1
  obtain ⟨w1, A1, n1, c1, C, hr, s1, b1, hC⟩ := app_full (P := Try.prog) 62 62 45 ZS 24 Try.underlying62 info2 rfl h1 (arg_cells [(⟨A', n', c'⟩ : Hd)] 1 rfl hx (by decide) (fun _ _ => trivial)) (by simp) (by simp; omega) (by simp; omega)
  have hv : Vw w1 (.slice A1 n1 c1) (xss ++ [xs]) := ⟨_, s1.weaken fun b hb _ => by subst hb; exact ⟨_, _, _, hC, by decide⟩, Al.append (h2.stk (stk_below b1)) (Al.one (Sl.stk s (stk_below b1)))⟩
  obtain ⟨w2, hr2, f2, h3, -⟩ := (h.below b1).way hv (by simp; omega) (fun x hx => by
    rcases List.mem_append.1 hx with hx | hx
    · exact h.small x hx
    · simp at hx; subst hx; exact hsm)
  exact ⟨w1, A1, n1, c1, hr, b1, w2, hr2, f2, h3⟩
set_option maxHeartbeats 4000000 in
theorem double_c (h : NetS w g t xss ts Ft) (i : Int) : Calls Try.prog 34 #[.pointer (some ⟨g, 0, none⟩), .int .i64 i] w fun e w' => ∃ Ft', NetS w' g t (doubleV (xss, ts) i).1 (doubleV (xss, ts) i).2 Ft' ∧ Up (g :: Ft) w (g :: Ft') w' ∧ e = .returned (.int .i64 (doubleE (xss, ts) i)) := by
  refine netDouble_sx _ (fun b => b ∈ g :: Ft) w _ i ?_
  refine (there_c h i).mono ?_
  rintro e w1 ⟨rfl, b1⟩
  have h1 := h.below b1
  have u1 : Up (g :: Ft) w (g :: Ft) w1 := below_up b1
  have hF := h.lt
  have lo1 := b1.size
  refine ⟨_, rfl, ⟨u1.fr, mild_nil b1.size⟩, fun hf => ⟨Ft, ?_, u1, ?_⟩, fun ht => ?_⟩
  · unfold doubleV doubleE; simp only [hf]; simpa using h1
  · unfold doubleE; rw [if_neg (by simp [hf])]
  obtain ⟨k, rfl, hk⟩ := in_nat ht
  obtain ⟨A, n, c, hc1, hv1, hn⟩ := h1.up.cells
  refine ⟨g, 0, rfl, A, n, c, hc1, fun hge => ⟨Ft, ?_, u1, ?_⟩, fun hlt => ?_⟩
  · unfold doubleV; rw [if_neg (by unfold doubleE; rw [if_pos ht, if_pos (by show 4096 ≤ xss.length; omega)]; decide)]; exact h1
  · unfold doubleE; rw [if_pos ht, if_pos (by show 4096 ≤ xss.length; omega)]
  have hE : doubleE (xss, ts) (k : Int) = 0 := by unfold doubleE; rw [if_pos ht, if_neg (by show ¬ 4096 ≤ xss.length; omega)]
  have hV : doubleV (xss, ts) (k : Int) = (xss ++ [xss[k]], addV ts 5 1) := by unfold doubleV; rw [if_pos hE, Int.toNat_natCast, getD_at hk]
  rw [hV, hE]
  have lg : g < w1.heap.size := h1.lt g (by simp)
  obtain ⟨p, o, A', n', c', rfl, hc', s'⟩ := hv1.get k hk
  have lp : p < w1.heap.size := cells_lt hc'
  refine ⟨[], (fun b hb => by cases hb), g, 0, rfl, fun w2 f2 b2 => ?_⟩
  have h2 := h1.below b2
  have u2 := u1.below b2
  have hc2 : CellsAt w2 g 0 [.slice (some ⟨p, o, none⟩) n c] := cells_below hc1 b2
  have hc2' := cells_below hc' b2
  obtain ⟨hs, q1, q2⟩ := hv1.stk (stk_below b2)
  have s2 := Sl.stk s' (stk_below b2)
  have lo2 := b2.size
  have fin : ∀ (gx : Nat) (w4 : World), Below w2.heap.size w2 w4 → w.heap.size ≤ gx → w4.heap[gx]? = some (.cells #[.slice A' n' c'] 45 (0, 0)) →
      ∃ w5 : World, ∃ A28 : Option Addr, ∃ n29 : Nat, ∃ n30 : Nat, (Builtin.append_ #[62, 62] 62 #[(.slice (some ⟨p, o, none⟩) n n), (.slice (some ⟨gx, 0, none⟩) 1 1)]).run Try.prog w4 = .ok (.slice A28 n29 n30) w5 ∧ (Fr (fun b => b ∈ g :: Ft) w w5 ∧ Mild [gx] w4 w5) ∧
      (∃ p31 : Nat, ∃ o32 : Nat, (Value.pointer (some ⟨g, 0, none⟩)) = .pointer (some ⟨p31, o32, none⟩) ∧
      (∃ w6 : World, (Instr.storeAt 62 (.pointer (some ⟨p31, o32 + ((0 : Int)).toNat * 0 + 0, none⟩)) (.slice A28 n29 n30)).run Try.prog w5 = .ok () w6 ∧ (Fr (fun b => b ∈ g :: Ft) w w6 ∧ Mild [gx] w5 w6) ∧
      (Calls Try.prog 44 #[(.pointer (some ⟨g, 0, none⟩)), (.int .i64 (5 : Int))] w6 fun r w7 => r = .returned (.tuple #[]) ∧ (Fr (fun b => b ∈ g :: Ft) w w7 ∧ Mild [gx] w6 w7) ∧
      ∃ Ft', NetS w7 g t (xss ++ [xss[k]]) (addV ts 5 1) Ft' ∧ Up (g :: Ft) w (g :: Ft') w7 ∧ Ending.returned (.int .i64 0) = .returned (.int .i64 0)))) := by
    intro gx w4 b4 logx t4
    have k4 := stk_below b4
    have q1' : Sl w2 (still w2) (.slice (some ⟨p, o, none⟩) n n) hs := (run_clip (P := Try.prog) 62 45 Try.underlying62 info2'.choose_spec.1 q1 w2).2
    obtain ⟨w5, A5, n5, c5, hr5, b5, w6, hr6, f6, h6⟩ := (h2.below b4).push (Sl.stk q1' k4) (q2.stk k4) t4 (Sl.stk s2 k4) (by omega) (h.small _ (List.getElem_mem hk))
    have u5 := (u2.below b4).below b5
    have u6 := u5.trans (up_self (F := Ft) f6)
    refine ⟨w5, A5, n5, c5, hr5, ok_ret b5 (u2.below b4).fr, g, 0, rfl, w6, hr6, ⟨u6.fr, f6.size, fun b hb hl => f6.block b hl fun hm => ?_⟩, ?_⟩
    · simp at hb hm; have := hF g (by simp); omega
    refine (note_c h6 5).mono ?_
    rintro e w7 ⟨Ft', h7, u7, rfl⟩
    have u7' := u6.trans (up_cons (g := g) u7)
    refine ⟨rfl, ⟨u7'.fr, mild_up u7 fun b hb hm => ?_⟩, Ft', h7, u7', rfl⟩
    simp at hb; have := h.tal.lt b hm; omega
  refine ⟨_, n, c, hc2, ⟨lg, by simp⟩, g, 0, rfl, _, n, c, hc2, ⟨lg, by simp⟩, by omega, by omega, p, o, rfl, A', n', c', hc2', ⟨lp, by simp⟩, ?_, fun g24 hg24 w3 f3 b3 => ?_⟩
  · refine (clip_c q1).mono ?_
    rintro e w3 ⟨rfl, rfl, -⟩
    refine ⟨_, _, _, rfl, ⟨u2.fr, mild_nil (Nat.le_refl _)⟩, fun _ _ _ => rfl, ?_⟩
    intro g27 hg27 w4 f4 b4 lo27 t27
    exact fin g27 w4 b4 hg27 t27
  · refine (clip_c (Sl.stk q1 (stk_below b3))).mono ?_
    rintro e w4 ⟨rfl, rfl, -⟩
    exact ⟨_, _, _, rfl, ⟨f3, Nat.le_refl _, fun _ _ _ => rfl⟩, fun _ _ _ => rfl, fun t24' => fin g24 w4 b3 hg24 t24'⟩
theorem hd_at {w : World} {base gr n c : Nat} {e : TypeId} {hs : List Hd} (o : OwnF w base e (.slice (some ⟨gr, 0, none⟩) n c) hs) (k : Nat) (hk : k < hs.length) : CellsAt w gr (0 + k * 1 + 0) [hs[k].v] := (o.sl).at_k k hk
theorem own_some {α : Type} [Rep α] [Flat α] {w : World} {base : Nat} {e : TypeId} {A : Option Addr} {n c : Nat} {xs : List α} (h : OwnF w base e (.slice A n c) xs) (hp : 0 < xs.length) : ∃ g, A = some ⟨g, 0, none⟩ ∧ base ≤ g ∧ g < w.heap.size ∧ ∃ C, w.heap[g]? = some (.cells C e (0, 0)) := by
  obtain ⟨b, o, rfl, _⟩ := h.sl.at_ hp
  obtain ⟨cs, ⟨_, q⟩, _⟩ := h
  rcases q with ⟨q, _⟩ | ⟨g', cap, cur, q, hb, hg', _⟩
  · injection q with q; cases q
  · injection q with q
    injection q with q
    injection q with q1 q2
    subst q1; subst q2
    exact ⟨b, rfl, hb, heap_lt hg', cur, hg'⟩
theorem xor_one (x : UInt8) : bits .xor .u8 (x.toNat : Int) (1 : Int) = ((x ^^^ 1).toNat : Int) := Frm.bits8_xor x 1
set_option maxHeartbeats 4000000 in
theorem turn_c (h : NetS w g t xss ts Ft) (i a : Int) : Calls Try.prog 35 #[.pointer (some ⟨g, 0, none⟩), .int .i64 i, .int .i64 a] w fun e w' => NetS w' g t (turnV (xss, ts) i a).1 (turnV (xss, ts) i a).2 Ft ∧ Up (g :: Ft) w (g :: Ft) w' ∧ e = .returned (.int .i64 (turnE (xss, ts) i a)) := by
  have stay : ∀ {w'}, turnE (xss, ts) i a = 1 → NetS w' g t xss ts Ft → Up (g :: Ft) w (g :: Ft) w' → NetS w' g t (turnV (xss, ts) i a).1 (turnV (xss, ts) i a).2 Ft ∧ Up (g :: Ft) w (g :: Ft) w' ∧ Ending.returned (.int .i64 (1 : Int)) = .returned (.int .i64 (turnE (xss, ts) i a)) := by
    intro w' he h' u'
    rw [he]
    unfold turnV
    rw [if_neg (by rw [he]; decide)]
    exact ⟨h', u', rfl⟩
  refine netTurn_sx _ (fun b => b ∈ [g]) w _ i a ?_
  refine (there_c h i).mono ?_
  rintro e w1 ⟨rfl, b1⟩
  have h1 := h.below b1
  have u1 : Up (g :: Ft) w (g :: Ft) w1 := below_up b1
  have f1 : Fr (fun b => b ∈ [g]) w w1 := (Fr.refl _ _).step b1
  have hF := h.lt
  have lo1 := b1.size
  refine ⟨_, rfl, ⟨f1, mild_nil b1.size⟩, fun hf => stay (by unfold turnE; rw [if_neg (by simp [hf])]) h1 u1, fun ht => ⟨fun ha => stay (by unfold turnE; rw [if_pos ht, if_neg (by omega)]) h1 u1, fun ha => ?_⟩⟩
  obtain ⟨k, rfl, hk⟩ := in_nat ht
  obtain ⟨A, n, c, hc1, hv1, hn⟩ := h1.up.cells
  have hl := h1.len
  obtain ⟨p, o, A', n', c', rfl, hc', s'⟩ := hv1.get k hk
  have hn' := s'.len
  have hsm := h.small _ (List.getElem_mem hk)
  refine ⟨g, 0, rfl, _, n, c, hc1, by omega, by omega, p, o, rfl, A', n', c', hc', fun hge => stay (by unfold turnE; rw [if_pos ht, if_neg (by show ¬ (0 ≤ a ∧ a < ((xss.getD k []).length : Int)); rw [getD_at hk]; omega)]) h1 u1, fun hlt => ?_⟩
  obtain ⟨d, rfl⟩ : ∃ d : Nat, a = d := ⟨a.toNat, by omega⟩
  have hd : d < xss[k].length := by omega
  have hE : turnE (xss, ts) (k : Int) (d : Int) = 0 := by unfold turnE; rw [if_pos ht, if_pos (by show 0 ≤ (d : Int) ∧ (d : Int) < ((xss.getD k []).length : Int); rw [getD_at hk]; omega)]
  have hV : turnV (xss, ts) (k : Int) (d : Int) = (xss.set k (xss[k].set d (xss[k][d] ^^^ 1)), ts) := by unfold turnV turnB; rw [if_pos hE]; simp only [Int.toNat_natCast]; rw [getD_at hk, getD_at hd]
  rw [hV, hE]
  clear stay
  obtain ⟨hs, q1, q2⟩ := hv1
  have hsl := q2.1
  refine ⟨g, 0, rfl, _, n, c, hc1, ?_⟩
  refine (clones_c q1 (by omega)).mono ?_
  rintro e w2 ⟨A2, n2, c2, rfl, o2, b2⟩
  obtain ⟨gr, rfl, gr1, gr2, C2, t2⟩ := own_some o2 (by omega)
  have f2 := f1.step b2
  have h2 := h1.below b2
  have q22 := q2.stk (stk_below b2)
  have lo2 := b2.size
  refine ⟨_, n2, c2, rfl, ok_ret b2 f1, ?_⟩
  obtain ⟨w3, hr3, f3, h3, hg3⟩ := h2.way (⟨hs, own_still o2 (by decide), q22⟩ : Vw w2 _ xss) hl h1.small
  have hc3 : CellsAt w3 g 0 [.slice (some ⟨gr, 0, none⟩) n2 c2] := cells_row hg3 rfl
  have lo3 := f3.size
  have gg : g < w.heap.size := hF g (by simp)
  have ne3 : ∀ k', (Value.slice (some ⟨gr, 0, none⟩) n2 c2).ownBlock = some k' → ¬ k' ∈ [g] := by intro k' hk' hm; simp at hm; subst hm; injection hk' with hk'; simp at hk'; omega
  have o3 := OwnF.past o2 f3 ne3
  have f03 : Fr (fun b => b ∈ [g]) w w3 := f2.trans f3 (fun _ _ h => h) (fun _ _ h => h)
  refine ⟨g, 0, rfl, w3, hr3, ⟨f03, mild_nil lo3⟩, [], (fun b hb => by cases hb), g, 0, rfl, fun w4 f4 b4 => ?_⟩
  have hc4 := cells_below hc3 b4
  have h4 := h3.below b4
  have o4 := o3.below b4
  have gr3 : gr < w3.heap.size := by omega
  have gg3 : g < w3.heap.size := by omega
  have at4 := hd_at o4 k (by omega)
  have s4 := (Sl.stk (q22.2 k (by omega) hk) (stk_fr f3 fun b hb => by simp at hb; subst hb; exact h2.loud _ (by simp))).below b4
  have nlen := o4.sl.len
  have ilen := s4.len
  refine ⟨_, n2, c2, hc4, ⟨gg3, by simp⟩, g, 0, rfl, _, n2, c2, hc4, ⟨gg3, by simp⟩, by omega, by omega, gr, 0, rfl, _, _, _, at4, ⟨gr3, by simp⟩, ?_⟩
  refine (cloneb_c s4 (by omega)).mono ?_
  rintro e w5 ⟨A5, n5, c5, rfl, o5, b5⟩
  have f5 := f4.step b5
  have nlen5 := o5.sl.len
  obtain ⟨gi, rfl, gi1, gi2, C5, t5⟩ := own_some o5 (by omega)
  obtain ⟨i', hi', hsz'⟩ := info2'
  obtain ⟨w6, hr6, o6, gr6⟩ := own_set_hd (P := Try.prog) (t := 45) hi' hsz' (o4.below b5) k (by omega) ⟨some ⟨gi, 0, none⟩, n5, c5⟩
  have f6 := fr_of_grown gr6
  have lo4 := b4.size
  have lo5 := b5.size
  have lo6 := f6.size
  have off6 : 0 + ((k : Int)).toNat * 1 + 0 = k := by simp
  have f06 : Fr (fun b => b ∈ [g]) w w6 := f5.trans f6 (fun _ _ h => h) (fun j hj hm => by simp at hm; omega)
  refine ⟨_, n5, c5, rfl, ok_ret b5 f4, keep_below b5 b4.size, by omega, by omega, gr, 0, rfl, w6, by rw [off6]; exact hr6, ⟨f06, mild_nil lo6⟩, ?_⟩
  have hc6 : CellsAt w6 g 0 [.slice (some ⟨gr, 0, none⟩) n2 c2] := cells_keep (cells_below hc4 b5) (f6.block g (by omega) fun hm => by simp at hm; omega)
  have at6 := hd_at o6 k (by rw [List.length_set]; omega)
  rw [List.getElem_set_self] at at6
  have o56 : OwnF w6 w4.heap.size 5 (.slice (some ⟨gi, 0, none⟩) n5 c5) xss[k] := OwnF.past o5 f6 fun k' hk' hm => by simp at hm; subst hm; injection hk' with hk'; simp at hk'; omega
  have at7 : CellsAt w6 gi (0 + d * 1 + 0) [.int .u8 (xss[k][d].toNat : Int)] := o56.sl.at_k d hd
  have off7 : 0 + ((d : Int)).toNat * 1 + 0 = d := by simp
  obtain ⟨ib, hib, hszb⟩ : ∃ i, Try.prog.info? 5 = some i ∧ i.size = 1 := by
    have hh : (Try.prog.info? 5).map (·.size) = some 1 := by kernel_rfl
    cases hp : Try.prog.info? 5 with
    | none => rw [hp] at hh; cases hh
    | some i => rw [hp] at hh; injection hh with hh; exact ⟨i, rfl, hh⟩
  obtain ⟨w7, hr7, o7, gr7⟩ := own_set_byte (P := Try.prog) (t := 5) hib hszb o56 d hd (xss[k][d] ^^^ 1)
  have f7 := fr_of_grown gr7
  have lo7 := f7.size
  have f07 : Fr (fun b => b ∈ [g]) w w7 := f06.trans f7 (fun _ _ h => h) (fun j hj hm => by simp at hm; omega)
  refine ⟨g, 0, rfl, _, n2, c2, hc6, by omega, by omega, gr, 0, rfl, _, n5, c5, at6, by omega, by omega, gi, 0, rfl, _, at7, by omega, by omega, gi, 0, rfl, w7, by rw [off7, xor_one]; exact hr7, ⟨f07, mild_nil lo7⟩, ?_⟩
  have o67 := OwnF.past o6 f7 fun k' hk' hm => by simp at hm; subst hm; injection hk' with hk'; simp at hk'; omega
  have f13 : Fr (fun b => b ∈ [g]) w1 w3 := ((Fr.refl _ _).step b2).trans f3 (fun _ _ h => h) (fun _ _ h => h)
  have f37 : Fr (fun b => b ∈ [g]) w1 w7 := (((f13.step b4).step b5).trans f6 (fun _ _ h => h) (fun j hj hm => by simp at hm; omega)).trans f7 (fun _ _ h => h) (fun j hj hm => by simp at hm; omega)
  have hg7 : w7.heap[g]? = w3.heap[g]? := by
    rw [f7.block g (by omega) (fun hm => by simp at hm; omega), f6.block g (by omega) (fun hm => by simp at hm; omega), b5.block g (by omega), b4.block g (by omega)]
  refine ⟨⟨⟨_, _, _, hg7.trans hg3, hs.set k _, own_still o67 (by decide), ?_⟩, h1.tal.keep fun b hb hl => f37.block b hl fun hm => ?_, by rw [List.length_set]; exact hl, fun x hx => ?_⟩, ⟨f07.mono fun b _ hm => by simp at hm; simp [hm], fun b hb => .inl hb⟩, rfl⟩
  · exact Al.set (q2.stk (stk_fr f37 fun b hb => by simp at hb; subst hb; exact h1.loud _ (by simp))) k (own_still o7 (by decide))
  · simp at hm; subst hm; exact h1.apart hb
  · rcases List.mem_or_eq_of_mem_set hx with hx | rfl
    · exact h1.small x hx
    · rw [List.length_set]; exact hsm
end
end Go.Proofs.Ytdjjfpcfclheiaa
