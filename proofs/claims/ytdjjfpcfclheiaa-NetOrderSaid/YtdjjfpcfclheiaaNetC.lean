/- Net: contracts of the methods: what they do with the row. -/
import Derived.Test.YtdjjfpcfclheiaaNetB
set_option linter.unusedSimpArgs false
set_option linter.unusedVariables false
namespace Go.Proofs.Ytdjjfpcfclheiaa
open Go Go.RowKit Go.Proofs Go.Trc Go.Sx

theorem mild_up {F F' bs : List Nat} {w w' : World} (u : Up F w F' w') (h : ∀ b ∈ bs, b ∉ F) : Mild bs w w' := ⟨u.fr.size, fun b hb hl => u.fr.block b hl (h b hb)⟩
abbrev NS := List (List UInt8) × List Int
/-- A frame; what May says of it; its bytes. -/
abbrev FV := Frm.FrV
def mayV (f : FV) : Int := Frm.mayF f.kd f.fr f.to f.ep f.sq f.ak f.bd.length
def putW (f : FV) : List UInt8 := Frm.putV f.kd f.fr f.to f.ep f.sq f.ak f.bd
def nilF : FV := ⟨0, 0, 0, 0, 0, 0, []⟩
def inV (xss : List (List UInt8)) (i : Int) : Bool := decide (0 ≤ i ∧ i < (xss.length : Int))
def goneV (xss : List (List UInt8)) (i : Int) : List (List UInt8) := xss.take i.toNat ++ xss.drop (i.toNat + 1)
def atV (xss : List (List UInt8)) (i : Int) : FV × Int := if inV xss i then Frm.takeV (xss.getD i.toNat []) else (nilF, 1)
def deliverV (s : NS) (i : Int) : NS := if (atV s.1 i).2 = 1 then s else (goneV s.1 i, addV s.2 (if (atV s.1 i).2 = 2 then 3 else 2) 1)
def dropV (s : NS) (i : Int) : NS := if inV s.1 i then (goneV s.1 i, addV s.2 4 1) else s
def dropE (s : NS) (i : Int) : Int := if inV s.1 i then 0 else 1
def doubleE (s : NS) (i : Int) : Int := if inV s.1 i then (if 4096 ≤ s.1.length then 20 else 0) else 1
def doubleV (s : NS) (i : Int) : NS := if doubleE s i = 0 then (s.1 ++ [s.1.getD i.toNat []], addV s.2 5 1) else s
def turnB (xs : List UInt8) (k : Nat) : List UInt8 := xs.set k (xs.getD k 0 ^^^ 1)
def turnE (s : NS) (i k : Int) : Int := if inV s.1 i then (if 0 ≤ k ∧ k < ((s.1.getD i.toNat []).length : Int) then 0 else 1) else 1
def turnV (s : NS) (i k : Int) : NS := if turnE s i k = 0 then (s.1.set i.toNat (turnB (s.1.getD i.toNat []) k.toNat), s.2) else s
def sendF (s : NS × Int) (f : FV) : NS × Int := if mayV f = 0 then (if 4096 ≤ s.1.1.length then ((s.1.1, addV s.1.2 1 1), s.2) else ((s.1.1 ++ [putW f], addV s.1.2 0 1), s.2 + 1)) else s
def sendV (s : NS) (fs : List FV) : NS × Int := fs.foldl sendF (s, 0)
theorem take_code (bs : List UInt8) : (Frm.takeV bs).2 = 0 ∨ (Frm.takeV bs).2 = 2 := by unfold Frm.takeV; split <;> simp
theorem at_code (xss : List (List UInt8)) (i : Int) : (atV xss i).2 = 1 ↔ inV xss i = false := by
  unfold atV
  cases h : inV xss i with
  | true =>
    simp only [if_true]
    have := take_code (xss.getD i.toNat [])
    constructor
    · intro h; omega
    · intro h; cases h
  | false => simp
theorem in_nat {xss : List (List UInt8)} {i : Int} (h : inV xss i = true) : ∃ k : Nat, i = k ∧ k < xss.length := by
  unfold inV at h
  have := of_decide_eq_true h
  exact ⟨i.toNat, by omega, by omega⟩
theorem getD_at {α : Type} {l : List α} {k : Nat} {d : α} (h : k < l.length) : l.getD k d = l[k] := by rw [List.getD_eq_getElem?_getD, List.getElem?_eq_getElem h]; rfl
theorem gone_len {xss : List (List UInt8)} (i : Int) : (goneV xss i).length ≤ xss.length := by unfold goneV; simp; omega
theorem gone_mem {xss : List (List UInt8)} {i : Int} {xs : List UInt8} (h : xs ∈ goneV xss i) : xs ∈ xss := by
  unfold goneV at h
  rcases List.mem_append.1 h with h | h
  · exact List.mem_of_mem_take h
  · exact List.mem_of_mem_drop h

section
variable {w : World} {g t : Nat} {xss : List (List UInt8)} {ts : List Int} {Ft : List Nat}
theorem NetS.up (h : NetS w g t xss ts Ft) : Net w g xss ts (g :: Ft) := .mk t Ft h
/-- Its row is laid anew. -/
theorem NetS.way (h : NetS w g t xss ts Ft) {A : Option Addr} {n c : Nat} {yss : List (List UInt8)} (hv : Vw w (.slice A n c) yss) (hl : yss.length ≤ 4096) (hs : ∀ xs ∈ yss, xs.length ≤ 100000) :
    ∃ w', (Instr.storeAt 62 (.pointer (some ⟨g, 0, none⟩)) (.slice A n c)).run Try.prog w = .ok () w' ∧ Fr (fun b => b ∈ [g]) w w' ∧ NetS w' g t yss ts Ft ∧ w'.heap[g]? = some (.cells #[.slice A n c, .pointer (some ⟨t, 0, none⟩)] TN (0, 0)) := by
  obtain ⟨A0, n0, c0, hg, _⟩ := h.hg
  obtain ⟨w', hr, hg', gr⟩ := store_row (P := Try.prog) (w := w) 62 (by kernel_rfl) (v := .slice A n c) (o := 0) hg (by simp) rfl rfl
  have f := fr_of_grown gr
  have k : StK w w' := stk_fr f fun b hb => by simp at hb; subst hb; exact h.loud b (by simp)
  refine ⟨w', hr, f, ⟨⟨A, n, c, hg', hv.stk k⟩, h.tal.keep fun b hb hl => f.block b hl fun hm => ?_, hl, hs⟩, hg'⟩
  simp at hm
  subst hm
  exact h.apart hb
theorem note_c (h : NetS w g t xss ts Ft) (k : Int) : Calls Try.prog 44 #[.pointer (some ⟨g, 0, none⟩), .int .i64 k] w fun e w' => ∃ Ft', NetS w' g t xss (addV ts k 1) Ft' ∧ Up Ft w Ft' w' ∧ e = .returned (.tuple #[]) := by
  obtain ⟨A, n, c, hg, hv⟩ := h.hg
  refine netNote_sx _ (fun b => b ∈ Ft) w _ k ⟨g, 0, rfl, _, cells_row hg rfl, ?_⟩
  refine (add_c h.tal k 1 (by omega)).mono ?_
  rintro e w1 ⟨F1, t1, u1, rfl⟩
  exact ⟨_, rfl, ⟨u1.fr, mild_nil u1.fr.size⟩, F1, ⟨⟨A, n, c, (u1.fr.block g (heap_lt hg) h.apart).trans hg, hv.stk (stk_up u1 fun b hb => h.loud b (by simp [hb]))⟩, t1, h.len, h.small⟩, u1, rfl⟩
theorem len_c (h : NetS w g t xss ts Ft) : Calls Try.prog 29 #[.pointer (some ⟨g, 0, none⟩)] w (Ret (.int .i64 (xss.length : Int)) w) := by
  obtain ⟨A, n, c, hc, hv, hn⟩ := h.up.cells
  exact netLen_sx _ (fun _ => False) w _ ⟨g, 0, rfl, A, n, c, hc, by rw [hn]; exact ret_leaf (Fr.refl _ _) rfl⟩
theorem there_c (h : NetS w g t xss ts Ft) (i : Int) : Calls Try.prog 47 #[.pointer (some ⟨g, 0, none⟩), .int .i64 i] w (Ret (.bool (inV xss i)) w) := by
  obtain ⟨A, n, c, hc, hv, hn⟩ := h.up.cells
  refine netThere_sx _ (fun _ => False) w _ i ⟨fun h0 => ⟨g, 0, rfl, A, n, c, hc, ret_leaf (Fr.refl _ _) ?_⟩, fun h0 => ret_leaf (Fr.refl _ _) ?_⟩
  · unfold inV; rw [hn]; simp [h0]
  · unfold inV; rw [decide_eq_false (by omega)]
set_option maxHeartbeats 1000000 in
theorem off_c (h : NetS w g t xss ts Ft) (k : Nat) (hk : k < xss.length) : Calls Try.prog 48 #[.pointer (some ⟨g, 0, none⟩), .int .i64 (k : Int)] w fun e w' => NetS w' g t (goneV xss k) ts Ft ∧ Fr (fun b => b ∈ [g]) w w' ∧ e = .returned (.tuple #[]) := by
  obtain ⟨A, n, c, hg, hv⟩ := h.hg
  have hn := hv.len
  have hl := h.len
  obtain ⟨hs, h1, h2⟩ := id hv
  have hsl := h2.1
  have lg := heap_lt hg
  obtain ⟨i, hi, hsz⟩ := info2'
  obtain ⟨c1, s1⟩ := cut_hi (P := Try.prog) 62 45 Try.underlying62 hi h1 (k := k) (by omega)
  obtain ⟨A2, c2, s2⟩ := cut_lo (P := Try.prog) 62 45 Try.underlying62 hi hsz h1 (k := k + 1) (by omega)
  refine netOff_sx _ (fun b => b ∈ [g]) w _ (k : Int) ⟨g, 0, rfl, fun w1 f1 b1 => ?_⟩
  have hg1 := (b1.block g lg).trans hg
  refine ⟨A, n, c, cells_row hg1 rfl, ⟨lg, by simp⟩, _, _, _, fun w' _ => c1 w', g, 0, rfl, A, n, c, cells_row hg1 rfl, ⟨lg, by simp⟩, _, _, _, fun w' _ => by rw [wrap_in (by omega)]; exact c2 w', ?_⟩
  intro g19 hg19 w2 f2 b2 lo t2
  have B2 := b1.trans (b2.mono b1.size)
  refine (concat_c t2 (s1.below B2) (s2.below B2) (by omega) (by omega)).mono ?_
  rintro e w3 ⟨A3, n3, c3, rfl, o3, b3⟩
  have B3 := B2.trans (b3.mono B2.size)
  have h3 := h.below B3
  have hv3 : Vw w3 (.slice A3 n3 c3) (goneV xss k) := ⟨_, own_still o3 (by decide), by
    have h2' := h2.stk (stk_below B3)
    exact (Al.take h2' k).append (Al.drop h2' (k + 1))⟩
  obtain ⟨w4, hr4, f4, h4, -⟩ := h3.way hv3 (Nat.le_trans (gone_len _) h.len) (fun xs hx => h.small xs (gone_mem hx))
  refine ⟨A3, n3, c3, rfl, ok_ret b3 f2, g, 0, rfl, w4, hr4, ⟨f2.step b3 |>.trans f4 (fun _ _ h => h) (fun _ _ h => h), ?_⟩, h4, f2.step b3 |>.trans f4 (fun _ _ h => h) (fun _ _ h => h), rfl⟩
  exact ⟨f4.size, fun b hb hl => f4.block b hl fun hm => by simp at hb hm; omega⟩
/-- A call that comes to a frame and a number; the frame's bytes are new. -/
def FrR (B : Nat) (x : FV × Int) (en : Ending) (w' : World) : Prop :=
  ∃ A n c, en = .returned (.tuple #[.agg #[.int .i64 x.1.kd, .int .i64 x.1.fr, .int .i64 x.1.to, .int .i64 x.1.ep, .int .i64 x.1.sq, .int .i64 x.1.ak, .slice A n c], .int .i64 x.2]) ∧ Sl w' (fun b => B ≤ b) (.slice A n c) x.1.bd
set_option maxHeartbeats 1000000 in
theorem at_c (h : NetS w g t xss ts Ft) (i : Int) : Calls Try.prog 31 #[.pointer (some ⟨g, 0, none⟩), .int .i64 i] w fun e w' => FrR w.heap.size (atV xss i) e w' ∧ Below w.heap.size w w' := by
  refine netAt_sx _ (fun _ => False) w _ i ?_
  intro g2 hg2 w1 f1 b1 lo t1
  have h1 := h.below b1
  refine (there_c h1 i).mono ?_
  rintro e w2 ⟨rfl, b2⟩
  have h2 := h1.below b2
  have f2 := f1.step b2
  refine ⟨_, rfl, ok_ret b2 f1, fun hf w3 f3 _ => ?_, fun ht => ?_⟩
  · unfold atV; rw [hf]
    exact ⟨⟨none, 0, 0, rfl, Sl.nil0 _ _⟩, fr_below f3⟩
  obtain ⟨k, rfl, hk⟩ := in_nat ht
  obtain ⟨A, n, c, hc, hv, hn⟩ := h2.up.cells
  obtain ⟨p, o, A', n', c', rfl, hc', s'⟩ := hv.get k hk
  refine ⟨g, 0, rfl, _, n, c, hc, by omega, by omega, p, o, rfl, A', n', c', hc', ?_⟩
  have hsm := h.small _ (List.getElem_mem hk)
  have hn' := s'.len
  refine (Frm.take_c s'.here (by omega)).mono ?_
  rintro e w3 ⟨A3, n3, c3, rfl, s3, b3⟩
  refine ⟨_, _, _, _, _, _, A3, n3, c3, _, rfl, ok_ret b3 f2, fun w4 f4 q4 => ⟨?_, fr_below f4⟩⟩
  unfold atV; rw [if_pos ht, Int.toNat_natCast, getD_at hk]
  refine ⟨A3, n3, c3, rfl, s3.mono fun b hb hl => ⟨?_, q4.block b hl fun hm => ?_⟩⟩
  · exact Nat.le_trans f2.size hb
  · simp at hm; subst hm
    have := heap_lt t1
    have := b2.size
    omega
/-- A local of the caller's is written. -/
theorem NetS.loc {w' : World} {g2 : Nat} (h : NetS w g t xss ts Ft) (f : Fr (fun b => b ∈ [g2]) w w') (h2 : ∃ C fr, w.heap[g2]? = some (.cells C TF fr)) (hn : g2 ∉ g :: Ft) : NetS w' g t xss ts Ft := by
  obtain ⟨C, fr, h2⟩ := h2
  refine h.keep (fun b hb => f.block b (h.lt b hb) fun hm => ?_) (stk_fr f fun b hb => ?_)
  · simp at hm; subst hm; exact hn hb
  · simp at hb; subst hb; exact not_still h2 (.inr (.inr (.inr (.inr rfl))))
theorem FrR.kept {B : Nat} {x : FV × Int} {en : Ending} {w w' : World} {S : Nat → Prop} (h : FrR B x en w) (f : Fr S w w') (hS : ∀ b, S b → b < B) : FrR B x en w' := by
  obtain ⟨A, n, c, rfl, s⟩ := h
  exact ⟨A, n, c, rfl, s.mono fun b hb hl => ⟨hb, f.block b hl fun hs => by have := hS b hs; omega⟩⟩
theorem frr_args {B : Nat} {x : FV × Int} {en : Ending} {w : World} (h : FrR B x en w) : ∃ A n c, en = .returned (.tuple #[.agg #[.int .i64 x.1.kd, .int .i64 x.1.fr, .int .i64 x.1.to, .int .i64 x.1.ep, .int .i64 x.1.sq, .int .i64 x.1.ak, .slice A n c], .int .i64 x.2]) ∧ Sl w (fun b => B ≤ b) (.slice A n c) x.1.bd := h
set_option maxHeartbeats 4000000 in
theorem deliver_c (h : NetS w g t xss ts Ft) (i : Int) : Calls Try.prog 33 #[.pointer (some ⟨g, 0, none⟩), .int .i64 i] w fun e w' => FrR w.heap.size (atV xss i) e w' ∧ ∃ Ft', NetS w' g t (deliverV (xss, ts) i).1 (deliverV (xss, ts) i).2 Ft' ∧ Up (g :: Ft) w (g :: Ft') w' := by
  refine netDeliver_sx _ (fun b => b ∈ g :: Ft) w _ i ?_
  intro g2 hg2 w1 f1 b1 lo2 t2
  have h1 := h.below b1
  have lt2 := heap_lt t2
  have hF := h.lt
  have n2 : g2 ∉ g :: Ft := fun hm => by have := hF g2 hm; omega
  refine (at_c h1 i).mono ?_
  rintro e w2 ⟨⟨A2, m2, c2, rfl, s2⟩, b2⟩
  have h2 := h1.below b2
  have f2 := f1.step b2
  have b02 := b1.trans (b2.mono b1.size)
  have t22 := (b2.block g2 lt2).trans t2
  refine ⟨_, _, _, _, _, _, A2, m2, c2, _, rfl, ok_ret b2 f1, ?_⟩
  intro g13 hg13
  have main : ∀ (kk : Int) (w3 : World), ¬ (atV xss i).2 = 1 → kk = (if (atV xss i).2 = 2 then 3 else 2) → Fr (fun b => b ∈ g :: Ft) w w3 → Below w2.heap.size w2 w3 → w2.heap.size ≤ g13 → g13 < w3.heap.size →
      Calls Try.prog 48 #[.pointer (some ⟨g, 0, none⟩), .int .i64 i] w3 fun r w4 => r = .returned (.tuple #[]) ∧ (Fr (fun b => b ∈ g :: Ft) w w4 ∧ Mild [g13, g2] w3 w4) ∧
      (Calls Try.prog 44 #[.pointer (some ⟨g, 0, none⟩), .int .i64 kk] w4 fun r w5 => r = .returned (.tuple #[]) ∧ (Fr (fun b => b ∈ g :: Ft) w w5 ∧ Mild [g13, g2] w4 w5) ∧
        ∀ w6 : World, Fr (fun b => b ∈ g :: Ft) w w6 → Fr (fun b => b ∈ [g2]) w5 w6 → FrR w.heap.size (atV xss i) (.returned (.tuple #[.agg #[.int .i64 (atV xss i).1.kd, .int .i64 (atV xss i).1.fr, .int .i64 (atV xss i).1.to, .int .i64 (atV xss i).1.ep, .int .i64 (atV xss i).1.sq, .int .i64 (atV xss i).1.ak, .slice A2 m2 c2], .int .i64 (atV xss i).2])) w6 ∧ ∃ Ft', NetS w6 g t (deliverV (xss, ts) i).1 (deliverV (xss, ts) i).2 Ft' ∧ Up (g :: Ft) w (g :: Ft') w6) := by
    intro kk w3 hne hkk f3 b3 lo13 lt13
    have hin : inV xss i = true := by
      cases hb : inV xss i with
      | true => rfl
      | false => exact absurd ((at_code xss i).2 hb) hne
    obtain ⟨k, rfl, hk⟩ := in_nat hin
    have h3 := h2.below b3
    refine (off_c h3 k hk).mono ?_
    rintro e w4 ⟨h4, f34, rfl⟩
    have u3 : Up (g :: Ft) w (g :: Ft) w3 := ⟨f3, fun b hb => .inl hb⟩
    have u4 := u3.trans (up_self (F := Ft) f34)
    refine ⟨rfl, ⟨u4.fr, f34.size, fun b hb hl => f34.block b hl fun hm => ?_⟩, ?_⟩
    · have := hF g (by simp)
      have := b02.size
      simp at hb hm; omega
    refine (note_c h4 kk).mono ?_
    rintro e w5 ⟨Ft', h5, u5, rfl⟩
    have u5' := u4.trans (up_cons (g := g) u5)
    have hT := h.tal.lt
    have sz2 := b02.size
    refine ⟨rfl, ⟨u5'.fr, mild_up u5 fun b hb hm => ?_⟩, ?_⟩
    · have := hT b hm
      simp at hb; omega
    intro w6 f6 q6
    have hb3 := b3.size
    have hb2 := b2.size
    have hs4 := f34.size
    have t25 : w5.heap[g2]? = w2.heap[g2]? := by
      rw [u5.fr.block g2 (by omega) (fun hm => by have := hT g2 hm; omega), f34.block g2 (by omega) (fun hm => by have := hF g (by simp); simp at hm; omega), b3.block g2 (by omega)]
    have n2' : g2 ∉ g :: Ft' := fun hm => by
      rcases List.mem_cons.1 hm with hm | hm
      · exact n2 (by simp [hm])
      · rcases u5.new g2 hm with h | h
        · exact n2 (by simp [h])
        · omega
    have hd : deliverV (xss, ts) (k : Int) = (goneV xss k, addV ts kk 1) := by unfold deliverV; rw [if_neg hne, hkk]
    rw [hd]
    refine ⟨⟨A2, m2, c2, rfl, s2.mono fun b hb hl => ⟨Nat.le_trans b1.size hb, ?_⟩⟩, Ft', h5.loc q6 ⟨_, _, t25.trans t22⟩ n2', ⟨u5'.fr.trans q6 (fun _ _ h => h) (fun k hk hm => by simp at hm; omega), u5'.new⟩⟩
    have hw1 := b1.size
    have hs5 := u5.fr.size
    rw [q6.block b (by omega) (fun hm => by simp at hm; omega), u5.fr.block b (by omega) (fun hm => by have := hT b hm; omega), f34.block b (by omega) (fun hm => by have := hF g (by simp); simp at hm; omega), b3.block b (by omega)]
  refine ⟨fun h1 w3 f3 q3 lo13 t13 => ?_, fun hne => ⟨fun he w3 f3 b3 lo13 t13 => main 3 w3 hne (by rw [if_pos he]) f3 b3 lo13 (heap_lt t13), fun he w3 f3 b3 lo13 t13 => main 2 w3 hne (by rw [if_neg he]) f3 b3 lo13 (heap_lt t13)⟩⟩
  have hd : deliverV (xss, ts) i = (xss, ts) := by unfold deliverV; rw [if_pos h1]
  rw [hd]
  have hw1 := b1.size
  refine ⟨⟨A2, m2, c2, rfl, s2.mono fun b hb hl => ⟨Nat.le_trans b1.size hb, q3.block b hl fun hm => by simp at hm; omega⟩⟩, Ft, h2.loc q3 ⟨_, _, t22⟩ n2, ⟨f3, fun b hb => .inl hb⟩⟩
end
end Go.Proofs.Ytdjjfpcfclheiaa
