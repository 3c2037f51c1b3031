/- The law TallyOrder. -/
import Derived.Test.YtdjjfpcfclheiaaTalD
import Derived.Test.YtdjjfpcfclheiaaTalL
set_option linter.unusedSimpArgs false
set_option linter.unusedVariables false
namespace Go.Proofs.Ytdjjfpcfclheiaa
open Go Go.RowKit Go.Proofs Go.Trc Go.Sx

abbrev PR := Int × Int
def amt (p : PR) : Int := p.2.tmod 1000
def con (j : Nat) (p : PR) : Int := if p.1 = (j : Int) ∧ 0 ≤ amt p then amt p else 0
/-- What any numbers come to, in whatever order. -/
def totV (ps : List PR) : List Int := (List.range 9).map fun j => (ps.map (con j)).sum
theorem amt_lt (p : PR) : amt p ≤ 999 := by unfold amt; have := Int.tmod_lt_of_pos p.2 (by decide : (0 : Int) < 1000); omega
theorem con_rng (j : Nat) (p : PR) : 0 ≤ con j p ∧ con j p ≤ 999 := by
  unfold con
  have := amt_lt p
  split <;> omega
theorem con_sum (j : Nat) : ∀ ps : List PR, 0 ≤ (ps.map (con j)).sum ∧ (ps.map (con j)).sum ≤ 999 * (ps.length : Int)
  | [] => by simp
  | p :: ps => by
    have h1 := con_rng j p
    have h2 := con_sum j ps
    simp only [List.map_cons, List.sum_cons, List.length_cons]
    omega
theorem tot_len (ps : List PR) : (totV ps).length = 9 := by simp [totV]
theorem tot_at (ps : List PR) (j : Nat) (h : j < (totV ps).length) : (totV ps)[j] = (ps.map (con j)).sum := by simp [totV]
theorem tot_snoc (qs : List PR) (p : PR) : totV (qs ++ [p]) = totV (p :: qs) := by
  unfold totV
  refine List.map_congr_left fun j _ => ?_
  simp only [List.map_append, List.map_cons, List.map_nil, List.sum_append, List.sum_cons, List.sum_nil]
  omega
theorem tot_ok (ps : List PR) (p : PR) (hl : ps.length ≤ 100) : addE (totV ps) p.1 (amt p) = 0 ↔ (0 ≤ p.1 ∧ p.1 < 9) ∧ 0 ≤ amt p := by
  have hg : getV (totV ps) p.1 ≤ 99900 := by
    unfold getV
    split
    · rename_i hi
      have hk : p.1.toNat < (totV ps).length := by omega
      rw [List.getD_eq_getElem?_getD, List.getElem?_eq_getElem hk, Option.getD_some, tot_at]
      have := (con_sum p.1.toNat ps).2
      omega
    · decide
  have ha := amt_lt p
  have hb : ¬ (big - getV (totV ps) p.1 < amt p) := by unfold big; omega
  unfold addE
  rw [tot_len, if_neg hb]
  constructor
  · intro h
    split at h
    · cases h
    · rename_i h1
      have h2 : 0 ≤ p.1 ∧ p.1 < ((9 : Nat) : Int) := Classical.byContradiction fun h2 => h1 (.inl h2)
      have h3 : ¬ amt p < 0 := fun h3 => h1 (.inr h3)
      exact ⟨⟨h2.1, by omega⟩, by omega⟩
  · rintro ⟨h1, h2⟩
    rw [if_neg]
    rintro (h | h)
    · exact h ⟨h1.1, by omega⟩
    · omega
theorem tot_add (ps : List PR) (p : PR) (hl : ps.length ≤ 100) : addV (totV ps) p.1 (amt p) = totV (ps ++ [p]) := by
  unfold addV
  split
  · rename_i he
    obtain ⟨h1, h2⟩ := (tot_ok ps p hl).1 he
    obtain ⟨k, hk⟩ : ∃ k : Nat, p.1 = k := ⟨p.1.toNat, by omega⟩
    have hk9 : k < (totV ps).length := by rw [tot_len]; omega
    rw [hk, getV_at hk9, Int.toNat_natCast, tot_at]
    apply List.ext_getElem
    · simp [tot_len]
    · intro j hj1 hj2
      rw [List.getElem_set, tot_at, tot_at]
      simp only [List.map_append, List.map_cons, List.map_nil, List.sum_append, List.sum_cons, List.sum_nil]
      unfold con
      split
      · rename_i hjk
        subst hjk
        rw [if_pos ⟨hk, h2⟩]
        omega
      · rename_i hjk
        rw [if_neg (fun h => hjk (by have := h.1; omega))]
        omega
  · rename_i he
    unfold totV
    refine List.map_congr_left fun j hj => ?_
    simp only [List.map_append, List.map_cons, List.map_nil, List.sum_append, List.sum_cons, List.sum_nil]
    have hc : con j p = 0 := by
      unfold con
      rw [if_neg]
      rintro ⟨h1, h2⟩
      have := List.mem_range.1 hj
      exact he ((tot_ok ps p hl).2 ⟨⟨by omega, by omega⟩, h2⟩)
    omega
theorem sum_set : ∀ (xs : List Int) (k : Nat) (m : Int) (h : k < xs.length), (xs.set k (xs[k] + m)).sum = xs.sum + m
  | x :: xs, 0, m, _ => by simp; omega
  | x :: xs, k + 1, m, h => by
    have := sum_set xs k m (by simpa using h)
    simp only [List.set_cons_succ, List.getElem_cons_succ, List.sum_cons]
    omega
theorem add_sum (xs : List Int) (i m : Int) : (addV xs i m).sum = xs.sum + if addE xs i m = 0 then m else 0 := by
  unfold addV
  split
  · rename_i he
    have hi : 0 ≤ i ∧ i < (xs.length : Int) := by
      apply Classical.byContradiction
      intro hi
      unfold addE at he
      rw [if_pos (.inl hi)] at he
      cases he
    obtain ⟨k, rfl⟩ : ∃ k : Nat, i = k := ⟨i.toNat, by omega⟩
    have hk : k < xs.length := by omega
    rw [getV_at hk, Int.toNat_natCast, sum_set]
  · omega
theorem cells_fst {w : World} {b o : Nat} {p : PR} (h : CellsAt w b o (Fixed.cells p)) : CellsAt w b o [.int .i64 p.1] := by
  intro j u hu
  cases j with
  | zero => simp only [nth] at hu; injection hu with hu; subst hu; exact h 0 _ rfl
  | succ j => cases j <;> simp [nth] at hu
theorem cells_snd {w : World} {b o : Nat} {p : PR} (h : CellsAt w b (o + 0) (Fixed.cells p)) : CellsAt w b (o + 1) [.int .i64 p.2] := by
  intro j u hu
  cases j with
  | zero => simp only [nth] at hu; injection hu with hu; subst hu; exact h 1 _ rfl
  | succ j => cases j <;> simp [nth] at hu
theorem eql_tal (W : World) (p : Option Addr) : (binOp .eql 24 (.pointer p) (.pointer none)).run Try.prog W = .ok (.bool p.isNone) W := by
  go_simp
theorem wf_snd {p : PR} (h : Fixed.wf p) : -9223372036854775808 ≤ p.2 ∧ p.2 ≤ 9223372036854775807 := h.2
theorem tmod_rng (x : Int) (h : -9223372036854775808 ≤ x ∧ x ≤ 9223372036854775807) : -9223372036854775808 ≤ x.tmod 1000 ∧ x.tmod 1000 ≤ 9223372036854775807 := by
  have h1 := Int.tmod_lt_of_pos x (by decide : (0 : Int) < 1000)
  have h2 : -1000 < x.tmod 1000 := by
    have := Int.neg_tmod x 1000
    have h3 := Int.tmod_lt_of_pos (-x) (by decide : (0 : Int) < 1000)
    omega
  omega
theorem tot_rng (ps : List PR) (hl : ps.length ≤ 100) : 0 ≤ (totV ps).sum ∧ (totV ps).sum ≤ 70368744177664 := by
  have := sum_rng (xs := totV ps) (fun x hx => by
    obtain ⟨j, _, rfl⟩ := List.mem_map.1 hx
    have := con_sum j ps
    unfold big; omega)
  rw [tot_len] at this
  unfold big at this
  omega

set_option maxHeartbeats 4000000 in
theorem tallyOrder_wk {w : World} {A : Option Addr} {n c : Nat} {xs : List PR} (h : Sl w (fun b => b < w.heap.size) (.slice A n c) xs) :
    Calls Try.prog 3 #[.slice A n c] w (Ret (.bool true) w) := by
  have hn := h.len
  refine tallyOrder_sx _ (fun _ => False) w A n c ?_
  refine (tshown_c w).mono ?_
  rintro e w1 ⟨rfl, b1⟩
  have f1 := (Fr.refl (fun _ => False) w).step b1
  refine ⟨_, rfl, ok_ret b1 (Fr.refl _ _), ?_⟩
  refine (new_c w1 9).mono ?_
  rintro e w2 ⟨ga, hga, a2, b2, rfl⟩
  have f2 := f1.step b2
  refine ⟨_, rfl, ok_ret b2 f1, ?_⟩
  refine (new_c w2 9).mono ?_
  rintro e w3 ⟨gb, hgb, b3', b3, rfl⟩
  have f3 := f2.step b3
  have lga := a2.lt ga (by simp)
  refine ⟨_, rfl, ok_ret b3 f2, fun h => (by cases h), fun _ => ⟨_, eql_tal w3 _, fun h => (by cases h), fun _ => ⟨_, eql_tal w3 _, fun h => (by cases h), fun _ => ⟨_, run_min2 w3 _ _ _ _, ?_⟩⟩⟩⟩
  obtain ⟨N, hN, hN1, hN2⟩ : ∃ N : Nat, min (n : Int) 60 = N ∧ N ≤ n ∧ N ≤ 60 := ⟨min n 60, by omega, by omega, by omega⟩
  rw [hN]
  have z : List.replicate (kindsV 9) 0 = totV [] := by decide
  rw [z] at a2 b3'
  have hps : (xs.take N).length = N := by simp; omega
  generalize hpsd : xs.take N = ps at hps
  have hat : ∀ k (hk : k < N), xs[k]'(by omega) = ps[k]'(by omega) := fun k hk => by subst hpsd; simp
  refine ⟨fun s i w4 => ∃ (k : Nat) (Fa Fb : List Nat), i = k ∧ k ≤ N ∧ s = (totV (ps.take k)).sum ∧ Tal w4 ga (totV (ps.take k)) Fa ∧ Tal w4 gb (totV (ps.drop (N - k))) Fb ∧ (∀ b ∈ Fa, w.heap.size ≤ b) ∧ (∀ b ∈ Fb, w.heap.size ≤ b) ∧ (∀ b ∈ Fa, b ∉ Fb),
    fun _ i _ => (N - i : Int).toNat, ⟨0, [ga], [gb], rfl, Nat.zero_le _, rfl, a2.below b3, by rw [Nat.sub_zero, List.drop_of_length_le (by omega)]; exact b3', ?_, ?_, ?_⟩, ?_⟩
  · intro b hb; simp at hb; subst hb; exact Nat.le_trans f1.size hga
  · intro b hb; simp at hb; subst hb; exact Nat.le_trans f2.size hgb
  · intro b hb hm; simp at hb hm; omega
  rintro _ _ w4 f4 ⟨k, Fa, Fb, rfl, hk, rfl, ha, hb, geA, geB, dis⟩
  refine ⟨fun hlt => ?_, fun hge => ?_⟩
  · have hk' : k < N := by omega
    have hx : ∀ {w'}, Fr (fun _ => False) w w' → Sl w' (fun b => b < w.heap.size) (.slice A n c) xs := fun f => h.below (fr_below f)
    have h4 := hx f4
    obtain ⟨p, o, rfl, hp, _, hwf, _⟩ := Sl.cells h4 k (by omega)
    obtain ⟨_, _, _, _, _, hwf2, _⟩ := Sl.cells h4 (N - 1 - k) (by omega)
    have hpl : p < w4.heap.size := Nat.lt_of_lt_of_le hp f4.size
    have e1 := hat k hk'
    have e2 := hat (N - 1 - k) (by omega)
    have tl : (ps.take k).length ≤ 100 := by simp; omega
    have dl : (ps.drop (N - k)).length ≤ 100 := by simp; omega
    have ht1 : ps.take (k + 1) = ps.take k ++ [ps[k]'(by omega)] := List.take_succ_eq_append_getElem (by omega)
    have hd1 : ps.drop (N - (k + 1)) = (ps[N - 1 - k]'(by omega)) :: ps.drop (N - k) := by
      rw [List.drop_eq_getElem_cons (by omega : N - (k + 1) < ps.length)]
      congr 1
      · congr 1; omega
      · congr 1; omega
    have addA := tot_add (ps.take k) (ps[k]'(by omega)) tl
    have addB := tot_add (ps.drop (N - k)) (ps[N - 1 - k]'(by omega)) dl
    rw [tot_snoc, ← hd1] at addB
    rw [← ht1] at addA
    have w1' : IntKind.i64.wrap (IntKind.i64.wrap ((N : Int) - 1) - (k : Int)) = ((N - 1 - k : Nat) : Int) := by rw [wrap_in (x := (N : Int) - 1) (by omega), wrap_in (by omega)]; omega
    rw [w1']
    have sA := tot_rng (ps.take k) tl
    have sA1 := tot_rng (ps.take (k + 1)) (by simp; omega)
    have hsum := add_sum (totV (ps.take k)) (ps[k]'(by omega)).1 (amt (ps[k]'(by omega)))
    rw [addA] at hsum
    refine ⟨by omega, by omega, p, o, rfl, fun w5 f5 b5 => ⟨_, cells_fst ((hx f5).at_k k (by omega)), ⟨hpl, by simp⟩, by omega, by omega, p, o, rfl, _, cells_snd ((hx f5).at_k k (by omega)), ⟨hpl, by simp⟩, by omega, ?_⟩⟩
    rw [e1]
    rw [e1] at hwf
    rw [e2] at hwf2
    refine (add_c (ha.below b5) _ _ (tmod_rng _ (wf_snd hwf))).mono ?_
    rintro e w6 ⟨Fa6, a6, u6, rfl⟩
    have addA' : addV (totV (ps.take k)) (ps[k]'(by omega)).1 ((ps[k]'(by omega)).2.tmod 1000) = totV (ps.take (k + 1)) := addA
    rw [addA'] at a6
    have f6 := up_fr f5 u6 geA
    have bB6 := (hb.below b5).past u6 (fun b hb' hm => dis b hm hb')
    have geA6 := up_ge u6 geA f5.size
    have dis6 : ∀ b ∈ Fb, b ∉ Fa6 := apart_up u6 (hb.below b5).lt (fun b hb' hm => dis b hm hb')
    have hpl6 : p < w6.heap.size := Nat.lt_of_lt_of_le hp f6.size
    have fin : ∀ w7, Fr (fun _ => False) w w7 → Below w6.heap.size w6 w7 → Calls Try.prog 14 #[.pointer (some ⟨gb, 0, none⟩), .int .i64 (ps[N - 1 - k]'(by omega)).1, .int .i64 ((ps[N - 1 - k]'(by omega)).2.tmod 1000)] w7 fun r w8 => ∃ i29 : Int, r = .returned (.int .i64 i29) ∧ (Fr (fun _ => False) w w8 ∧ Mild [] w7 w8) ∧
        ∃ Fa' Fb' : List Nat, Tal w8 ga (totV (ps.take (k + 1))) Fa' ∧ Tal w8 gb (totV (ps.drop (N - (k + 1)))) Fb' ∧ (∀ b ∈ Fa', w.heap.size ≤ b) ∧ (∀ b ∈ Fb', w.heap.size ≤ b) ∧ (∀ b ∈ Fa', b ∉ Fb') := by
      intro w7 f7 b7
      refine (add_c (bB6.below b7) _ _ (tmod_rng _ (wf_snd hwf2))).mono ?_
      rintro e w8 ⟨Fb8, b8, u8, rfl⟩
      have addB' : addV (totV (ps.drop (N - k))) (ps[N - 1 - k]'(by omega)).1 ((ps[N - 1 - k]'(by omega)).2.tmod 1000) = totV (ps.drop (N - (k + 1))) := addB
      rw [addB'] at b8
      have d7 : ∀ b ∈ Fa6, b ∉ Fb := fun b hb' hm => dis6 b hm hb'
      exact ⟨_, rfl, ⟨up_fr f7 u8 geB, mild_nil u8.fr.size⟩, Fa6, Fb8, (a6.below b7).past u8 d7, b8, geA6, up_ge u8 geB f7.size, apart_up u8 (a6.below b7).lt d7⟩
    refine ⟨_, rfl, ⟨f6, mild_nil u6.fr.size⟩, fun h0 => ?_, fun hne => ?_⟩
    · refine ⟨by omega, by omega, p, o, rfl, _, cells_snd ((hx f6).at_k k (by omega)), by omega, by omega, by omega, p, o, rfl, fun w7 f7 b7 => ⟨_, cells_fst ((hx f7).at_k (N - 1 - k) (by omega)), ⟨hpl6, by simp⟩, by omega, by omega, p, o, rfl, _, cells_snd ((hx f7).at_k (N - 1 - k) (by omega)), ⟨hpl6, by simp⟩, by omega, ?_⟩⟩
      rw [e2, e1]
      refine (fin w7 f7 b7).mono ?_
      rintro e w8 ⟨i29, rfl, ok8, Fa', Fb', q1, q2, q3, q4, q5⟩
      have hsum := hsum.trans (congrArg _ (if_pos h0))
      have hsum' : (totV (ps.take (k + 1))).sum = (totV (ps.take k)).sum + (ps[k]'(by omega)).2.tmod 1000 := hsum
      refine ⟨_, rfl, ok8, ⟨k + 1, Fa', Fb', by rw [wrap_in (by omega)]; rfl, hk', ?_, q1, q2, q3, q4, q5⟩, by rw [wrap_in (x := (k : Int) + 1) (by omega)]; dsimp only; omega⟩
      rw [wrap_in (by omega), hsum']
    · refine ⟨by omega, by omega, p, o, rfl, fun w7 f7 b7 => ⟨_, cells_fst ((hx f7).at_k (N - 1 - k) (by omega)), ⟨hpl6, by simp⟩, by omega, by omega, p, o, rfl, _, cells_snd ((hx f7).at_k (N - 1 - k) (by omega)), ⟨hpl6, by simp⟩, by omega, ?_⟩⟩
      rw [e2]
      refine (fin w7 f7 b7).mono ?_
      rintro e w8 ⟨i29, rfl, ok8, Fa', Fb', q1, q2, q3, q4, q5⟩
      have hsum := hsum.trans (congrArg _ (if_neg hne))
      exact ⟨_, rfl, ok8, ⟨k + 1, Fa', Fb', by rw [wrap_in (by omega)]; rfl, hk', by omega, q1, q2, q3, q4, q5⟩, by rw [wrap_in (x := (k : Int) + 1) (by omega)]; dsimp only; omega⟩
  · obtain rfl : k = N := by omega
    have et : ps.take k = ps := List.take_of_length_le (by omega)
    have ed : ps.drop (k - k) = ps := by simp
    rw [et] at ha ⊢
    rw [ed] at hb
    refine (all_c ha).mono ?_
    rintro e w5 ⟨Fa5, A5, n5, c5, a5, u5, o5, rfl, -⟩
    have f5 := up_fr f4 u5 geA
    have ge5 := up_ge u5 geA f4.size
    have hb5 := hb.past u5 (fun b hb' hm => dis b hm hb')
    have d5 : ∀ b ∈ Fb, b ∉ Fa5 := apart_up u5 hb.lt (fun b hb' hm => dis b hm hb')
    refine ⟨A5, n5, c5, rfl, ⟨f5, mild_nil u5.fr.size⟩, ?_⟩
    refine (all_c hb5).mono ?_
    rintro e w6 ⟨Fb6, A6, n6, c6, b6, u6, o6, rfl, -⟩
    have f6 := up_fr f5 u6 geB
    have ge6 := up_ge u6 geB f5.size
    have a6 := a5.past u6 (fun b hb' hm => d5 b hm hb')
    have d6 : ∀ b ∈ Fa5, b ∉ Fb6 := apart_up u6 a5.lt (fun b hb' hm => d5 b hm hb')
    refine ⟨A6, n6, c6, rfl, ⟨f6, mild_nil u6.fr.size⟩, ?_⟩
    have o5' := OwnF.past o5 u6.fr (hb5.own_ne o5 (by decide) (by decide))
    refine (ints_c o5'.sl o6.sl).mono ?_
    rintro e w7 ⟨rfl, b7⟩
    have f7 := f6.step b7
    refine ⟨_, rfl, ok_ret b7 f6, fun _ => ?_, fun h => (by simp at h)⟩
    refine (tsum_c (a6.below b7)).mono ?_
    rintro e w8 ⟨Fa8, a8, u8, rfl, -⟩
    have f8 := up_fr f7 u8 ge5
    have b8 := (b6.below b7).past u8 (fun b hb' hm => d6 b hm hb')
    have d8 : ∀ b ∈ Fb6, b ∉ Fa8 := apart_up u8 (b6.below b7).lt (fun b hb' hm => d6 b hm hb')
    refine ⟨_, rfl, ⟨f8, mild_nil u8.fr.size⟩, fun _ => ?_, fun h => absurd rfl h⟩
    refine (tsum_c b8).mono ?_
    rintro e w9 ⟨Fb9, b9, u9, rfl, -⟩
    have f9 := up_fr f8 u9 ge6
    have a9 := a8.past u9 (fun b hb' hm => d8 b hm hb')
    refine ⟨_, rfl, ⟨f9, mild_nil u9.fr.size⟩, fun _ => ?_, fun h => absurd rfl h⟩
    refine (all_c a9).mono ?_
    rintro e w10 ⟨Fa10, A10, n10, c10, a10, u10, o10, rfl, -⟩
    have f10 := up_fr f9 u10 (up_ge u8 ge5 f7.size)
    have := o10.sl.len
    rw [tot_len] at this
    exact ⟨A10, n10, c10, rfl, ⟨f10, mild_nil u10.fr.size⟩, by rw [this]; rfl, fr_below f10⟩
set_option maxRecDepth 10000 in
theorem rd_pairs : Rd Try.prog 22 (List PR) := rd_slice Try.underlying22 (by kernel_rfl)
  (rd_array Try.underlying28 (by kernel_rfl) (rdF_cons (by kernel_rfl) (rd_int Try.underlying3) rfl (rdF_last (by kernel_rfl) (rd_int Try.underlying3))))
theorem tallyOrder_walk (w : World) (A : Option Addr) (n c : Nat) (xs : List PR) (h : Sl w (fun b => b < w.heap.size) (.slice A n c) xs) :
    Calls Try.prog 3 #[.slice A n c] w fun e w' => e = .returned (.bool true) ∧ Below w.heap.size w w' := tallyOrder_wk h
end Go.Proofs.Ytdjjfpcfclheiaa
