/- Net: shown, does. -/
import Derived.Test.YtdjjfpcfclheiaaNetF
set_option linter.unusedSimpArgs false
set_option linter.unusedVariables false
namespace Go.Proofs.Ytdjjfpcfclheiaa
open Go Go.RowKit Go.Proofs Go.Trc Go.Sx
theorem keepUp {F F1 T : List Nat} {N : Nat} {w1 w2 : World} (u : Up F w1 F1 w2) (hN : N ≤ w1.heap.size) (h : ∀ b ∈ F, b ∈ T ∨ N ≤ b) : Keep N T w1 w2 := fun k hk hn => u.fr.block k (Nat.lt_of_lt_of_le hk hN) fun hm => by
  rcases h k hm with h1 | h1
  · exact hn h1
  · omega
theorem wfI (x : Int) (h : -9223372036854775808 ≤ x ∧ x ≤ 9223372036854775807) : Fixed.wf x := h
def ack1 : FV := ⟨4, 0, 1, 0, 0, 0, []⟩
def z6 : List Int := List.replicate 6 0
def shS : NS := (sendV ([], z6) [ack1]).1
def shT : NS := turnV shS 0 5
theorem sh1 : (sendV ([], z6) [ack1]).2 = 1 := by decide +kernel
theorem sh2 : turnE shS 0 5 = 0 := by decide +kernel
theorem sh3 : (atV shT.1 0).2 = 2 := by decide +kernel
theorem sh4 : (deliverV shT 0).1.length = 0 := by decide +kernel
theorem eql_net (W : World) (p : Option Addr) : (binOp .eql 43 (.pointer p) (.pointer none)).run Try.prog W = .ok (.bool p.isNone) W := by
  go_simp
/-- A frame that is laid alone. -/
theorem fs_one {w : World} {g : Nat} {f : FV} {A : Option Addr} {n c : Nat} {ok : Nat → Prop} (hx : w.heap[g]? = some (.cells #[.int .i64 f.kd, .int .i64 f.fr, .int .i64 f.to, .int .i64 f.ep, .int .i64 f.sq, .int .i64 f.ak, .slice A n c] 47 (0, 0)))
    (hw : Fixed.wf ((f.kd, f.fr, f.to, f.ep, f.sq, f.ak, ⟨A, n, c⟩) : Fh)) (hb : Sl w ok (.slice A n c) f.bd) (hg : ok g) : Fs w ok (.slice (some ⟨g, 0, none⟩) 1 1) [f] := by
  refine ⟨[(f.kd, f.fr, f.to, f.ep, f.sq, f.ak, ⟨A, n, c⟩)], ?_, Al.one ⟨_, rfl, hb⟩⟩
  have o : OwnF w g TF (.slice (some ⟨g, 0, none⟩) 1 1) [((f.kd, f.fr, f.to, f.ep, f.sq, f.ak, ⟨A, n, c⟩) : Fh)] := OwnF.cells _ 1 rfl (Nat.le_refl _) hx (by decide) (by intro x hx; simp only [List.mem_singleton] at hx; subst hx; exact hw)
  exact Sl.blk o.sl hg
set_option maxHeartbeats 4000000 in
theorem netShown_c (w : World) : Calls Try.prog 24 #[] w (Ret (.bool true) w) := by
  refine netShown_sx _ (fun _ => False) w ?_
  refine (netNew_c w).mono ?_
  rintro e w1 ⟨gn, F1, n1, ge1, b1, rfl⟩
  have f1 := (Fr.refl (fun _ => False) w).step b1
  refine ⟨_, rfl, ok_ret b1 (Fr.refl _ _), _, eql_net w1 _, (fun h => by cases h), fun _ => ?_⟩
  intro g2 hg2 w2 f2 b2 lo2 t2
  have n2 := n1.below b2
  have lt1 := n1.lt
  have lt2 := heap_lt t2
  have fs : Fs w2 (fun b => b = g2) (.slice (some ⟨g2, 0, none⟩) 1 1) [ack1] := fs_one (f := ack1) t2 ⟨wfI _ (by decide), wfI _ (by decide), wfI _ (by decide), wfI _ (by decide), wfI _ (by decide), wfI _ (by decide), trivial⟩ (Sl.nil0 _ _) rfl
  refine (nSend n2 (fun b hb => by rintro rfl; have := lt1 b hb; omega) fs).mono ?_
  rintro e w3 ⟨F3, n3, u3, rfl⟩
  have f3 := up_fr f2 u3 ge1
  have ge3 := up_ge u3 ge1 f2.size
  have ap3 : g2 ∉ F3 := apart_up (G := [g2]) u3 (by simp; exact lt2) (by intro b hb hm; simp at hb; subst hb; have := lt1 b hm; omega) g2 (by simp)
  refine ⟨_, rfl, ⟨f3, mild_up u3 fun b hb hm => ?_⟩, ?_⟩
  · simp at hb; subst hb; have := lt1 b hm; omega
  refine (nTurn n3 0 5).mono ?_
  rintro e w4 ⟨F4, n4, u4, rfl⟩
  have f4 := up_fr f3 u4 ge3
  have ge4 := up_ge u4 ge3 f3.size
  have lt23 := u3.fr.size
  have ap4 : g2 ∉ F4 := apart_up (G := [g2]) u4 (by simp; omega) (by intro b hb; simp at hb; subst hb; exact ap3) g2 (by simp)
  refine ⟨_, rfl, ⟨f4, mild_up u4 fun b hb => by simp at hb; subst hb; exact ap3⟩, ?_⟩
  refine (nDeliver n4 0).mono ?_
  rintro e w5 ⟨⟨A5, m5, c5, rfl, s5⟩, F5, n5, u5⟩
  have f5 := up_fr f4 u5 ge4
  have ge5 := up_ge u5 ge4 f4.size
  have lt24 := u4.fr.size
  refine ⟨_, _, _, _, _, _, A5, m5, c5, _, rfl, ⟨f5, mild_up u5 fun b hb => by simp at hb; subst hb; exact ap4⟩, ?_⟩
  intro g15 hg15
  refine ⟨fun _ => ⟨fun _ => ⟨fun _ w6 f6 b6 lo6 t6 => ?_, fun h => absurd sh3 h⟩, fun h => absurd sh2 h⟩, fun h => absurd sh1 h⟩
  refine (nLen (n5.below b6)).mono ?_
  rintro e w7 ⟨rfl, b7⟩
  refine ⟨_, rfl, ok_ret b7 f6, ret_leaf (f6.step b7) ?_⟩
  show Value.bool (((deliverV shT 0).1.length : Int) == 0) = .bool true
  rw [sh4]; rfl

def opV (s : NS) (m i a : Int) (fs : List FV) : NS := if m = 3 then deliverV s i else if m = 4 then dropV s i else if m = 5 then doubleV s i else if m = 6 then turnV s i a else if m = 7 then s else (sendV s (fewV fs)).1
section
variable {w : World} {gn gy B : Nat} {xss : List (List UInt8)} {ts : List Int} {F : List Nat}
theorem two_fin {w2 w3 w4 : World} {F' : List Nat} {xs1 : List (List UInt8)} {ts1 : List Int} {B' : Nat} (b : Below w.heap.size w w2) (hn : Net w gn xss ts F) (hy : RNet w gy B xss ts) (hd : gy ∉ F) (u : Up F w2 F' w3) (n3 : Net w3 gn xs1 ts1 F')
    (f : Fr (fun b => b ∈ [gy]) w3 w4) (y4 : RNet w4 gy B' xs1 ts1) : Net w4 gn xs1 ts1 F' ∧ RNet w4 gy B' xs1 ts1 ∧ Up (gy :: F) w (gy :: F') w4 ∧ gy ∉ F' := by
  have y3 : RNet w3 gy B xss ts := (hy.below b).past u hd (hn.below b).loud
  have ap : gy ∉ F' := apart_up (G := [gy]) u (by simp; exact Nat.lt_of_lt_of_le hy.lt b.size) (by intro k hk; simp at hk; subst hk; exact hd) gy (by simp)
  refine ⟨n3.past (G := [gy]) (G' := [gy]) ⟨f, fun b hb => .inl hb⟩ (fun k hk hm => by simp at hm; subst hm; exact ap hk) y3.loud, y4, ?_, ap⟩
  exact ((Up.refl _ _).below b).trans ((up_cons u).trans (up_self (F := F') f))
def DoesR (w : World) (gn gy B : Nat) (F : List Nat) (s : NS) (e : Ending) (w' : World) : Prop := e = .returned (.bool true) ∧ ∃ F', Net w' gn s.1 s.2 F' ∧ RNet w' gy B s.1 s.2 ∧ Up (gy :: F) w (gy :: F') w' ∧ gy ∉ F'
theorem same_true (f : FV) : Frm.sameF f.kd f.fr f.to f.ep f.sq f.ak f.bd f.kd f.fr f.to f.ep f.sq f.ak f.bd = true := by unfold Frm.sameF; simp
set_option maxHeartbeats 8000000 in
theorem does_c (hn : Net w gn xss ts F) (hy : RNet w gy B xss ts) (hd : gy ∉ F) {ok : Nat → Prop} (hok : ∀ b ∈ F, ¬ ok b) (hoky : ¬ ok gy) {A : Option Addr} {n c : Nat} {fs : List FV} (hf : Fs w ok (.slice A n c) fs) (hB : B + 6 ≤ 1000000) (kd i a : Int) :
    Calls Try.prog 38 #[Np gn, Np gy, .agg #[.int .i64 kd, .int .i64 i, .int .i64 a, .slice A n c]] w (DoesR w gn gy (B + 6) F (opV (xss, ts) (bits .and .i64 kd 7) i a fs)) := by
  have ltF := hn.lt
  have lgy := hy.lt
  refine netDoes_sx _ (fun b => b ∈ gy :: F) w _ _ kd i a A n c ?_
  generalize bits .and .i64 kd 7 = m
  intro g8 hg8
  have apF : ∀ b ∈ F, b ≠ g8 := fun b hb he => by have := ltF b hb; omega
  refine ⟨fun m3 w1 f1 b1 lo8 t8 => ?_, fun m3 => ⟨fun m4 w1 f1 b1 lo8 t8 => ?_, fun m4 => ⟨fun m5 w1 f1 b1 lo8 t8 => ?_, fun m5 => ⟨fun m6 w1 f1 b1 lo8 t8 => ?_, fun m6 => ⟨fun m7 w1 f1 b1 lo8 t8 => ?_, fun m7 w1 f1 b1 lo8 t8 => ?_⟩⟩⟩⟩⟩
  · have n1 := hn.below b1
    have y1 := hy.below b1
    refine (nDeliver n1 i).mono ?_
    rintro e w2 ⟨⟨A2, k2, c2, rfl, s2⟩, F2, n2, u2⟩
    have f2 := fr_up f1 u2.fr (fun k hk => .inl (by simp [hk]))
    have s1 := b1.size
    have s2' := u2.fr.size
    refine ⟨_, _, _, _, _, _, A2, k2, c2, _, rfl, ⟨f2, mild_up u2 fun b hb hm => by simp at hb; exact apF b hm hb⟩, ?_⟩
    intro g19 hg19 w3 f3 b3 lo19 t19
    have lt3 := b3.size
    have y3 : RNet w3 gy B xss ts := (y1.past u2 hd n1.loud).below b3
    refine (rDeliver y3 (by omega) i).mono ?_
    rintro e w4 ⟨⟨A4, k4, c4, rfl, s4⟩, y4, q4⟩
    have f4 := f3.trans q4 (fun _ _ h => h) (fun _ _ hm => by simp at hm; simp [hm])
    have s4' := q4.size
    refine ⟨_, _, _, _, _, _, A4, k4, c4, _, rfl, ⟨f4, q4.size, fun b hb hl => q4.block b hl fun hm => by simp at hb hm; omega⟩, ?_⟩
    intro g30 hg30 w5 f5 b5 lo30 t30
    have s25 : Sl w5 (fun b => w1.heap.size ≤ b) (.slice A2 k2 c2) (atV xss i).1.bd := s2.mono fun b hb hl => ⟨hb, by rw [b5.block b (by omega), q4.block b (by omega) (fun hm => by simp at hm; omega), b3.block b (by omega)]⟩
    refine (Frm.same_c s25 (s4.below b5)).mono ?_
    rintro e w6 ⟨rfl, b6⟩
    obtain ⟨z1, z2, z3⟩ := two_fin b1 hn hy hd (u2.below b3) (n2.below b3) q4 y4
    have b56 := b5.trans (b6.mono b5.size)
    refine ⟨_, rfl, ok_ret b6 f5, fun _ => ⟨by simp, F2, ?_, ?_, z3.1.below b56, z3.2⟩, fun h => by rw [same_true] at h; cases h⟩
    · unfold opV; rw [if_pos m3]; exact z1.below b56
    · unfold opV; rw [if_pos m3]; exact (z2.more (by omega)).below b56
  · refine ⟨F, fun b hb => ⟨Nat.lt_of_lt_of_le (ltF b hb) b1.size, by simpa using apF b hb⟩, fun w2 f2 b2 => ?_⟩
    have b02 := b1.trans (b2.mono b1.size)
    refine (nDrop (hn.below b02) i).mono ?_
    rintro e w3 ⟨F3, n3, u3, rfl⟩
    have f3 := fr_up f2 u3.fr (fun k hk => .inl (by simp [hk]))
    have y3 := (hy.below b02).past u3 hd (hn.below b02).loud
    refine ⟨_, rfl, ⟨f3, mild_up u3 fun b hb hm => by simp at hb; exact apF b hm hb⟩, keepUp u3 b2.size (fun b hb => .inl (by simpa using hb)), ?_⟩
    refine (rDrop y3 (by omega) i).mono ?_
    rintro e w4 ⟨y4, q4, rfl⟩
    have f4 := f3.trans q4 (fun _ _ h => h) (fun _ _ hm => by simp at hm; simp [hm])
    obtain ⟨z1, z2, z3⟩ := two_fin b02 hn hy hd u3 n3 q4 y4
    refine ⟨_, rfl, ⟨f4, q4.size, fun b hb hl => q4.block b hl fun hm => by simp at hb hm; omega⟩, by simp, F3, ?_, ?_, z3⟩
    · unfold opV; rw [if_neg m3, if_pos m4]; exact z1
    · unfold opV; rw [if_neg m3, if_pos m4]; exact z2.more (by omega)
  · refine ⟨F, fun b hb => ⟨Nat.lt_of_lt_of_le (ltF b hb) b1.size, by simpa using apF b hb⟩, fun w2 f2 b2 => ?_⟩
    have b02 := b1.trans (b2.mono b1.size)
    refine (nDouble (hn.below b02) i).mono ?_
    rintro e w3 ⟨F3, n3, u3, rfl⟩
    have f3 := fr_up f2 u3.fr (fun k hk => .inl (by simp [hk]))
    have y3 := (hy.below b02).past u3 hd (hn.below b02).loud
    refine ⟨_, rfl, ⟨f3, mild_up u3 fun b hb hm => by simp at hb; exact apF b hm hb⟩, keepUp u3 b2.size (fun b hb => .inl (by simpa using hb)), ?_⟩
    refine (rDouble y3 (by omega) i).mono ?_
    rintro e w4 ⟨y4, q4, rfl⟩
    have f4 := f3.trans q4 (fun _ _ h => h) (fun _ _ hm => by simp at hm; simp [hm])
    obtain ⟨z1, z2, z3⟩ := two_fin b02 hn hy hd u3 n3 q4 y4
    refine ⟨_, rfl, ⟨f4, q4.size, fun b hb hl => q4.block b hl fun hm => by simp at hb hm; omega⟩, by simp, F3, ?_, ?_, z3⟩
    · unfold opV; rw [if_neg m3, if_neg m4, if_pos m5]; exact z1
    · unfold opV; rw [if_neg m3, if_neg m4, if_pos m5]; exact z2.more (by omega)
  · refine ⟨F, fun b hb => ⟨Nat.lt_of_lt_of_le (ltF b hb) b1.size, by simpa using apF b hb⟩, fun w2 f2 b2 => ?_⟩
    have b02 := b1.trans (b2.mono b1.size)
    refine (nTurn (hn.below b02) i a).mono ?_
    rintro e w3 ⟨F3, n3, u3, rfl⟩
    have f3 := fr_up f2 u3.fr (fun k hk => .inl (by simp [hk]))
    have y3 := (hy.below b02).past u3 hd (hn.below b02).loud
    refine ⟨_, rfl, ⟨f3, mild_up u3 fun b hb hm => by simp at hb; exact apF b hm hb⟩, keepUp u3 b2.size (fun b hb => .inl (by simpa using hb)), ?_⟩
    refine (rTurn y3 i a).mono ?_
    rintro e w4 ⟨y4, q4, rfl⟩
    have f4 := f3.trans q4 (fun _ _ h => h) (fun _ _ hm => by simp at hm; simp [hm])
    obtain ⟨z1, z2, z3⟩ := two_fin b02 hn hy hd u3 n3 q4 y4
    refine ⟨_, rfl, ⟨f4, q4.size, fun b hb hl => q4.block b hl fun hm => by simp at hb hm; omega⟩, by simp, F3, ?_, ?_, z3⟩
    · unfold opV; rw [if_neg m3, if_neg m4, if_neg m5, if_pos m6]; exact z1
    · unfold opV; rw [if_neg m3, if_neg m4, if_neg m5, if_pos m6]; exact z2.more (by omega)
  · have n1 := hn.below b1
    have y1 := hy.below b1
    refine (nAt n1 i).mono ?_
    rintro e w2 ⟨⟨A2, k2, c2, rfl, s2⟩, b2⟩
    have f2 := f1.step b2
    refine ⟨_, _, _, _, _, _, A2, k2, c2, _, rfl, ok_ret b2 f1, ?_⟩
    intro g19 hg19 w3 f3 b3 lo19 t19
    have b13 := b2.trans (b3.mono b2.size)
    refine (rAt (y1.below b13) i).mono ?_
    rintro e w4 ⟨⟨A4, k4, c4, rfl, s4⟩, b4⟩
    refine ⟨_, _, _, _, _, _, A4, k4, c4, _, rfl, ok_ret b4 f3, ?_⟩
    intro g30 hg30 w5 f5 b5 lo30 t30
    refine (Frm.same_c (((s2.below b3).below b4).below b5) (s4.below b5)).mono ?_
    rintro e w6 ⟨rfl, b6⟩
    have b16 := b13.trans ((b4.trans ((b5.trans (b6.mono b5.size)).mono b4.size)).mono b13.size)
    have b06 := b1.trans (b16.mono b1.size)
    refine ⟨_, rfl, ok_ret b6 f5, fun _ => ⟨by simp, F, ?_, ?_, (Up.refl _ _).below b06, hd⟩, fun h => by rw [same_true] at h; cases h⟩
    · unfold opV; rw [if_neg m3, if_neg m4, if_neg m5, if_neg m6, if_pos m7]; exact hn.below b06
    · unfold opV; rw [if_neg m3, if_neg m4, if_neg m5, if_neg m6, if_pos m7]; exact (hy.more (by omega)).below b06
  · refine ⟨F, fun b hb => ⟨Nat.lt_of_lt_of_le (ltF b hb) b1.size, by simpa using apF b hb⟩, fun w2 f2 b2 => ?_⟩
    have b02 := b1.trans (b2.mono b1.size)
    have hf2 : Fs w2 ok (.slice A n c) fs := hf.mono fun b hb hl => ⟨hb, b02.block b hl⟩
    refine (few_c hf2).mono ?_
    rintro e w3 ⟨A3, n3, c3, hs3, rfl, o3, a3, b3⟩
    have b03 := b02.trans (b3.mono b02.size)
    have f3 := f2.step b3
    refine ⟨A3, n3, c3, rfl, ok_ret b3 f2, keep_below b3 b2.size, ?_⟩
    have N3 := hn.below b03
    have lo2 := b02.size
    have fs3 : Fs w3 (fun b => ok b ∧ b < w2.heap.size ∨ w2.heap.size ≤ b) (.slice A3 n3 c3) (fewV fs) := ⟨hs3, o3.sl.weaken fun b hb _ => .inr hb, Al.mono a3 fun h f hh => hh.mono fun b hb hl => ⟨.inl ⟨hb, hl⟩, b3.block b hl⟩⟩
    refine (nSend N3 (fun b hb => by
      rintro (h | h)
      · exact hok b hb h.1
      · have := ltF b hb; omega) fs3).mono ?_
    rintro e w4 ⟨F4, n4, u4, rfl⟩
    have f4 := fr_up f3 u4.fr (fun k hk => .inl (by simp [hk]))
    have y4 := (hy.below b03).past u4 hd N3.loud
    refine ⟨_, rfl, ⟨f4, mild_up u4 fun b hb hm => by simp at hb; exact apF b hm hb⟩, keepUp u4 (Nat.le_trans b2.size b3.size) (fun b hb => .inl (by simpa using hb)), ?_⟩
    have hf4 : Fs w4 ok (.slice A n c) fs := hf.mono fun b hb hl => ⟨hb, (u4.fr.block b (Nat.lt_of_lt_of_le hl b03.size) fun hm => hok b hm hb).trans (b03.block b hl)⟩
    refine (few_c hf4).mono ?_
    rintro e w5 ⟨A5, n5, c5, hs5, rfl, o5, a5, b5⟩
    have f5 := f4.step b5
    refine ⟨A5, n5, c5, rfl, ok_ret b5 f4, ?_⟩
    have lo4 := u4.fr.size
    have lo3 := b3.size
    have fs5 : Fs w5 (fun b => ok b ∧ b < w4.heap.size ∨ w4.heap.size ≤ b) (.slice A5 n5 c5) (fewV fs) := ⟨hs5, o5.sl.weaken fun b hb _ => .inr hb, Al.mono a5 fun h f hh => hh.mono fun b hb hl => ⟨.inl ⟨hb, hl⟩, b5.block b hl⟩⟩
    have lf : (fewV fs).length ≤ 6 := by unfold fewV; simp; omega
    refine (rSend (y4.below b5) (by
      rintro (h | h)
      · exact hoky h.1
      · omega) fs5 (by omega)).mono ?_
    rintro e w6 ⟨y6, q6, rfl⟩
    have f6 := f5.trans q6 (fun _ _ h => h) (fun _ _ hm => by simp at hm; simp [hm])
    obtain ⟨z1, z2, z3⟩ := two_fin b03 hn hy hd (u4.below b5) (n4.below b5) q6 y6
    refine ⟨_, rfl, ⟨f6, q6.size, fun b hb hl => q6.block b hl fun hm => by simp at hb hm; omega⟩, by simp, F4, ?_, ?_, z3⟩
    · unfold opV; rw [if_neg m3, if_neg m4, if_neg m5, if_neg m6, if_neg m7]; exact z1
    · unfold opV; rw [if_neg m3, if_neg m4, if_neg m5, if_neg m6, if_neg m7]; exact z2.more (by omega)
end
end Go.Proofs.Ytdjjfpcfclheiaa
