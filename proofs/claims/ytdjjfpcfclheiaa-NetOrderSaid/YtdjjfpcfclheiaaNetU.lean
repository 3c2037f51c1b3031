/- Net: the reference's methods, on. -/
import Derived.Test.YtdjjfpcfclheiaaNetT
set_option linter.unusedSimpArgs false
set_option linter.unusedVariables false
namespace Go.Proofs.Ytdjjfpcfclheiaa
open Go Go.RowKit Go.Proofs Go.Trc Go.Sx
section
variable {w w' : World} {g B : Nat} {xss : List (List UInt8)} {ts : List Int}
set_option maxHeartbeats 8000000 in
theorem rDouble (h : RNet w g B xss ts) (hB : B < 1000000) (i : Int) : Calls Try.prog 54 #[Np g, .int .i64 i] w fun e w' => RNet w' g (B + 1) (doubleV (xss, ts) i).1 (doubleV (xss, ts) i).2 ∧ Fr (fun b => b ∈ [g]) w w' ∧ e = .returned (.int .i64 (doubleE (xss, ts) i)) := by
  have lg := h.lt
  have stay : ∀ x : Int, x ≠ 0 → doubleE (xss, ts) i = x → RNet w g (B + 1) (doubleV (xss, ts) i).1 (doubleV (xss, ts) i).2 ∧ Fr (fun b => b ∈ [g]) w w ∧ Ending.returned (.int .i64 x) = .returned (.int .i64 (doubleE (xss, ts) i)) := by
    intro x hx hE
    unfold doubleV
    rw [hE, if_neg hx]
    exact ⟨h.more (by omega), Fr.refl _ _, rfl⟩
  obtain ⟨A, n, c, hc, hv, hn⟩ := h.cells
  refine rnDouble_sx _ (fun b => b ∈ [g]) w _ i ⟨fun h0 => stay 1 (by decide) (by unfold doubleE inV; rw [decide_eq_false (by omega)]; rfl), fun h0 => ⟨g, 0, rfl, A, n, c, hc, fun hge => stay 1 (by decide) (by unfold doubleE inV; rw [decide_eq_false (by show ¬ (0 ≤ i ∧ i < (xss.length : Int)); omega)]; rfl), fun hlt => ?_⟩⟩
  have ht : inV xss i = true := decide_eq_true (by omega)
  refine ⟨g, 0, rfl, A, n, c, hc, fun hge => stay 20 (by decide) (by unfold doubleE; rw [if_pos ht, if_pos (by show 4096 ≤ xss.length; omega)]), fun hl4 => ?_⟩
  obtain ⟨k, rfl, hk⟩ := in_nat ht
  have hE : doubleE (xss, ts) (k : Int) = 0 := by unfold doubleE; rw [if_pos ht, if_neg (by show ¬ 4096 ≤ xss.length; omega)]
  have hV : doubleV (xss, ts) (k : Int) = (xss ++ [xss[k]], addV ts 5 1) := by unfold doubleV; rw [if_pos hE, Int.toNat_natCast, getD_at hk]
  clear stay
  rw [hV, hE]
  obtain ⟨p, o, A', n', c', rfl, hc', s'⟩ := hv.get k hk
  have lp := cells_lt hc'
  have hsm := h.small _ (List.getElem_mem hk)
  refine ⟨[], (fun b hb => by cases hb), g, 0, rfl, fun w1 f1 b1 => ?_⟩
  have hc1 := cells_below hc b1
  have hc1' := cells_below hc' b1
  have h1 := h.below b1
  have s1 := Sl.stk s' (stk_below b1)
  obtain ⟨hs, q1, q2⟩ := hv.stk (stk_below b1)
  have lo1 := b1.size
  -- what follows the row's copy
  have fin : ∀ (gx : Nat) (G : List Nat) (w4 : World) (A29 : Option Addr) (n30 n31 : Nat), Fr (fun _ => False) w1 w4 → (∀ b ∈ G, w.heap.size ≤ b) → OwnF w4 w1.heap.size 45 (.slice A29 n30 n31) hs → (∀ k', tail (.slice A29 n30 n31) = some k' → k' ∉ G) → w4.heap[gx]? = some (.cells #[.slice A' n' c'] 45 (0, 0)) →
      ∃ w5 : World, ∃ A33 : Option Addr, ∃ n34 : Nat, ∃ n35 : Nat, (Builtin.append_ #[62, 62] 62 #[(.slice A29 n30 n31), (.slice (some ⟨gx, 0, none⟩) 1 1)]).run Try.prog w4 = .ok (.slice A33 n34 n35) w5 ∧ (Fr (fun b => b ∈ [g]) w w5 ∧ Mild G w4 w5) ∧
      (∃ p36 : Nat, ∃ o37 : Nat, (Value.pointer (some ⟨g, 0, none⟩)) = .pointer (some ⟨p36, o37, none⟩) ∧
      (∃ w6 : World, (Instr.storeAt 62 (.pointer (some ⟨p36, o37 + ((0 : Int)).toNat * 0 + 0, none⟩)) (.slice A33 n34 n35)).run Try.prog w5 = .ok () w6 ∧ (Fr (fun b => b ∈ [g]) w w6 ∧ Mild G w5 w6) ∧
      (∃ T38 : List Nat, (∀ b ∈ T38, b < w6.heap.size ∧ b ∉ G) ∧
      (∃ p39 : Nat, ∃ o40 : Nat, (Value.pointer (some ⟨g, 0, none⟩)) = .pointer (some ⟨p39, o40, none⟩) ∧
      (∀ w7 : World, Fr (fun b => b ∈ [g]) w w7 → Below w6.heap.size w6 w7 → ∃ i41 : Int, CellsAt w7 p39 (o40 + ((0 : Int)).toNat * 0 + 6) [.int .i64 i41] ∧ (p39 < w6.heap.size ∧ p39 ∉ (T38 ++ [])) ∧
      (∃ p42 : Nat, ∃ o43 : Nat, (Value.pointer (some ⟨g, 0, none⟩)) = .pointer (some ⟨p42, o43, none⟩) ∧
      (∃ w8 : World, (Instr.storeAt 3 (.pointer (some ⟨p42, o43 + ((0 : Int)).toNat * 0 + 6, none⟩)) (.int .i64 (IntKind.i64.wrap (i41 + (1 : Int))))).run Try.prog w7 = .ok () w8 ∧ (Fr (fun b => b ∈ [g]) w w8 ∧ Mild G w7 w8) ∧
      (RNet w8 g (B + 1) (xss ++ [xss[k]]) (addV ts 5 1) ∧ Fr (fun b => b ∈ [g]) w w8 ∧ Ending.returned (.int .i64 0) = .returned (.int .i64 0))))))))) := by
    intro gx G w4 A29 n30 n31 f14 hG o4 htl t4
    obtain ⟨w5, A5, n5, c5, hr5, gr5, f15, w6, hr6, f6, h6⟩ := h1.push q2 s1 f14 o4 t4 (by omega) hsm
    have f05 : Fr (fun b => b ∈ [g]) w w5 := f1.trans f15 (fun _ _ h => h) (fun _ _ (h : False) => h.elim)
    have f06 := f05.trans f6 (fun _ _ h => h) (fun _ _ h => h)
    refine ⟨w5, A5, n5, c5, hr5, ⟨f05, grown_mild gr5 fun b hb he => htl b he.symm hb⟩, g, 0, rfl, w6, hr6, ⟨f06, f6.size, fun b hb hl => f6.block b hl fun hm => ?_⟩, [], (fun b hb => by cases hb), g, 0, rfl, fun w7 f7 b7 => ?_⟩
    · have := hG b hb; simp at hm; omega
    obtain ⟨w8, hr8, f8, h8⟩ := (h6.below b7).tick hB 5 (by decide)
    have f08 := f7.trans f8 (fun _ _ h => h) (fun _ _ h => h)
    exact ⟨_, (h6.below b7).at_t 5 (by decide), ⟨h6.lt, by simp⟩, g, 0, rfl, w8, hr8, ⟨f08, f8.size, fun b hb hl => f8.block b hl fun hm => by have := hG b hb; simp at hm; omega⟩, h8, f08, rfl⟩
  refine ⟨_, n, c, hc1, ⟨lg, by simp⟩, g, 0, rfl, _, n, c, hc1, ⟨lg, by simp⟩, by omega, by omega, p, o, rfl, A', n', c', hc1', ⟨lp, by simp⟩, ?_, ?_⟩
  · intro g28 hg28
    refine ⟨fun w2 f2 b2 lo28 t28 => ?_, fun g29 hg29 w2 f2 b2 lo29 t29 lo28 t28 => ?_⟩
    · obtain ⟨w3, A3, n3, c3, hr3, b3, o3, tl3⟩ := app_empty t28 lo28 (q1.below b2) (by omega)
      have f3 : Fr (fun _ => False) w1 w3 := ((Fr.refl _ _).step b2).step b3
      refine ⟨w3, A3, n3, c3, hr3, ok_ret b3 f2, keep_below b3 (Nat.le_trans lo1 b2.size), ?_⟩
      intro g32 hg32 w4 f4 b4 lo32 t32
      have := heap_lt t28
      have := b3.size
      have := (fun k' hk' => (tail_lt o3 (k := k') hk'))
      refine fin g32 [g32, g28] w4 A3 n3 c3 (f3.step b4) (by intro b hb; simp at hb; omega) (o3.below b4) (fun k' hk' hm => ?_) t32
      have e1 := tl3 k' hk'
      have e2 := tail_lt o3 hk'
      simp at hm; omega
    · obtain ⟨w3, A3, n3, c3, hr3, b3, o3, tl3⟩ := app_empty t28 lo28 (q1.below b2) (by omega)
      have f3 : Fr (fun _ => False) w1 w3 := ((Fr.refl _ _).step b2).step b3
      refine ⟨w3, A3, n3, c3, hr3, ok_ret b3 f2, keep_below b3 (Nat.le_trans lo1 b2.size), fun t29' => ?_⟩
      have := heap_lt t28
      have := heap_lt t29
      refine fin g29 [g29, g28] w3 A3 n3 c3 f3 (by intro b hb; simp at hb; omega) o3 (fun k' hk' hm => ?_) t29'
      have e1 := tl3 k' hk'
      simp at hm; omega
  · intro g28 hg28 g29 hg29 w2 f2 b2 lo29 t29 lo28 t28
    obtain ⟨w3, A3, n3, c3, hr3, b3, o3, tl3⟩ := app_empty t29 lo29 (q1.below b2) (by omega)
    have f3 : Fr (fun _ => False) w1 w3 := ((Fr.refl _ _).step b2).step b3
    refine ⟨w3, A3, n3, c3, hr3, ok_ret b3 f2, keep_below b3 (Nat.le_trans lo1 b2.size), fun t28' => ?_⟩
    have := heap_lt t28
    have := heap_lt t29
    refine fin g28 [g29, g28] w3 A3 n3 c3 f3 (by intro b hb; simp at hb; omega) o3 (fun k' hk' hm => ?_) t28'
    have e1 := tl3 k' hk'
    simp at hm; omega
theorem app_emptyb {w1 : World} {base g26 : Nat} {ok : Nat → Prop} {A : Option Addr} {n c : Nat} {xs : List UInt8} (t : w1.heap[g26]? = some (.cells #[] 5 (0, 0))) (lo : base ≤ g26) (h : Sl w1 ok (.slice A n c) xs) (hl : n ≤ 100000) :
    ∃ w2 A2 n2 c2, (Builtin.append_ #[45, 45] 45 #[.slice (some ⟨g26, 0, none⟩) 0 0, .slice A n c]).run Try.prog w1 = .ok (.slice A2 n2 c2) w2 ∧ Below w1.heap.size w1 w2 ∧ OwnF w2 base 5 (.slice A2 n2 c2) xs ∧ ∀ k, (Value.slice A2 n2 c2).ownBlock = some k → 0 < xs.length → w1.heap.size ≤ k := by
  have hn := h.len
  have lt := heap_lt t
  obtain ⟨i, hi, hz, hsz, hby⟩ := info_parts (show (Try.prog.info? 5).map (fun i => (i.zero, i.size, i.bytes)) = some (some (.int .u8 0), 1, 1) by kernel_rfl)
  have o0 : OwnF w1 base 5 (.slice (some ⟨g26, 0, none⟩) 0 0) ([] : List UInt8) := OwnF.cells (α := UInt8) [] 0 rfl lo t (by decide) (by simp)
  obtain ⟨w2, A2, n2, c2, hr, o, gr, tl⟩ := own_app (P := Try.prog) o0 45 45 (.int .u8 0) 1 Try.underlying45 (by kernel_rfl) rfl h.arg (by omega) (by simp; omega) (by simp; omega)
  rw [tail_full] at gr tl
  refine ⟨w2, A2, n2, c2, hr, below_of_grown gr, by simpa using o, fun k hk hp => ?_⟩
  obtain ⟨v', w'', hr', s', b', q⟩ := append_full (P := Try.prog) (α := UInt8) (ok' := fun b => True) 45 45 5 i (.int .u8 0) 1 Try.underlying45 hi hz hsz hby rfl (Sl.nil w1 (fun _ => True) (some ⟨g26, 0, none⟩) 0 (by omega) (fun h => by simp at h)) h.arg (.inl rfl) trivial (fun _ _ h => Flat.flat h) (fun _ _ h => Flat.flat h) (by simp; omega) (by simp; omega)
  have hr2 : (Builtin.append_ #[45, 45] 45 #[.slice (some ⟨g26, 0, none⟩) 0 0, .slice A n c]).run Try.prog w1 = .ok v' w'' := hr'
  rw [hr] at hr2
  injection hr2 with e1 e2
  have := (q hp).1
  rw [← e1] at this
  rw [this] at hk
  injection hk with hk
  omega
theorem app_empty2 {w1 : World} {base g26 : Nat} {ok : Nat → Prop} {A : Option Addr} {n c : Nat} {xs : List Hd} (t : w1.heap[g26]? = some (.cells #[] 45 (0, 0))) (lo : base ≤ g26) (h : Sl w1 ok (.slice A n c) xs) (hl : n ≤ 4096) :
    ∃ w2 A2 n2 c2, (Builtin.append_ #[62, 62] 62 #[.slice (some ⟨g26, 0, none⟩) 0 0, .slice A n c]).run Try.prog w1 = .ok (.slice A2 n2 c2) w2 ∧ Below w1.heap.size w1 w2 ∧ OwnF w2 base 45 (.slice A2 n2 c2) xs ∧ ∀ k, (Value.slice A2 n2 c2).ownBlock = some k → 0 < xs.length → w1.heap.size ≤ k := by
  have hn := h.len
  have lt := heap_lt t
  obtain ⟨i, hi, hz, hsz, hby⟩ := info_parts (show (Try.prog.info? 45).map (fun i => (i.zero, i.size, i.bytes)) = some (some ZS, 1, 24) by kernel_rfl)
  have o0 : OwnF w1 base 45 (.slice (some ⟨g26, 0, none⟩) 0 0) ([] : List Hd) := OwnF.cells (α := Hd) [] 0 rfl lo t (by decide) (by simp)
  obtain ⟨w2, A2, n2, c2, hr, o, gr, tl⟩ := own_app (P := Try.prog) o0 62 62 ZS 24 Try.underlying62 info2 rfl h.arg (by omega) (by simp; omega) (by simp; omega)
  rw [tail_full] at gr tl
  refine ⟨w2, A2, n2, c2, hr, below_of_grown gr, by simpa using o, fun k hk hp => ?_⟩
  obtain ⟨v', w'', hr', s', b', q⟩ := append_full (P := Try.prog) (α := Hd) (ok' := fun b => True) 62 62 45 i ZS 24 Try.underlying62 hi hz hsz hby rfl (Sl.nil w1 (fun _ => True) (some ⟨g26, 0, none⟩) 0 (by omega) (fun h => by simp at h)) h.arg (.inl rfl) trivial (fun _ _ h => Flat.flat h) (fun _ _ h => Flat.flat h) (by simp; omega) (by simp; omega)
  have hr2 : (Builtin.append_ #[62, 62] 62 #[.slice (some ⟨g26, 0, none⟩) 0 0, .slice A n c]).run Try.prog w1 = .ok v' w'' := hr'
  rw [hr] at hr2
  injection hr2 with e1 e2
  have := (q hp).1
  rw [← e1] at this
  rw [this] at hk
  injection hk with hk
  omega
set_option maxHeartbeats 8000000 in
theorem rTurn (h : RNet w g B xss ts) (i a : Int) : Calls Try.prog 55 #[Np g, .int .i64 i, .int .i64 a] w fun e w' => RNet w' g B (turnV (xss, ts) i a).1 (turnV (xss, ts) i a).2 ∧ Fr (fun b => b ∈ [g]) w w' ∧ e = .returned (.int .i64 (turnE (xss, ts) i a)) := by
  have stay : turnE (xss, ts) i a = 1 → RNet w g B (turnV (xss, ts) i a).1 (turnV (xss, ts) i a).2 ∧ Fr (fun b => b ∈ [g]) w w ∧ Ending.returned (.int .i64 (1 : Int)) = .returned (.int .i64 (turnE (xss, ts) i a)) := by
    intro he
    rw [he]
    unfold turnV
    rw [if_neg (by rw [he]; decide)]
    exact ⟨h, Fr.refl _ _, rfl⟩
  have lg := h.lt
  have hl := h.len
  obtain ⟨A, n, c, hc, hv, hn⟩ := h.cells
  refine rnTurn_sx _ (fun b => b ∈ [g]) w _ i a ⟨fun h0 => stay (by unfold turnE inV; rw [decide_eq_false (by omega)]; rfl), fun h0 => ⟨g, 0, rfl, A, n, c, hc, fun hge => stay (by unfold turnE inV; rw [decide_eq_false (by show ¬ (0 ≤ i ∧ i < (xss.length : Int)); omega)]; rfl), fun hlt => ?_⟩⟩
  have ht : inV xss i = true := decide_eq_true (by omega)
  obtain ⟨k, rfl, hk⟩ := in_nat ht
  refine ⟨fun ha => stay (by unfold turnE; rw [if_pos ht, if_neg (by omega)]), fun ha => ?_⟩
  obtain ⟨p, o, A', n', c', rfl, hc', s'⟩ := hv.get k hk
  have hn' := s'.len
  have hsm := h.small _ (List.getElem_mem hk)
  refine ⟨g, 0, rfl, _, n, c, hc, by omega, by omega, p, o, rfl, A', n', c', hc', fun hge => stay (by unfold turnE; rw [if_pos ht, if_neg (by show ¬ (0 ≤ a ∧ a < ((xss.getD k []).length : Int)); rw [getD_at hk]; omega)]), fun hlta => ?_⟩
  obtain ⟨d, rfl⟩ : ∃ d : Nat, a = d := ⟨a.toNat, by omega⟩
  have hd : d < xss[k].length := by omega
  have hE : turnE (xss, ts) (k : Int) (d : Int) = 0 := by unfold turnE; rw [if_pos ht, if_pos (by show 0 ≤ (d : Int) ∧ (d : Int) < ((xss.getD k []).length : Int); rw [getD_at hk]; omega)]
  have hV : turnV (xss, ts) (k : Int) (d : Int) = (xss.set k (xss[k].set d (xss[k][d] ^^^ 1)), ts) := by unfold turnV turnB; rw [if_pos hE]; simp only [Int.toNat_natCast]; rw [getD_at hk, getD_at hd]
  rw [hV, hE]
  clear stay
  intro g18 hg18
  refine ⟨g, 0, rfl, fun w1 f1 b1 lo18 t18 => ?_⟩
  have hc1 := cells_below hc b1
  have hc1' := cells_below hc' b1
  have s1 := Sl.stk s' (stk_below b1)
  have lo1 := b1.size
  refine ⟨_, n, c, hc1, by omega, by omega, p, o, rfl, A', n', c', hc1', fun t18' => ?_⟩
  obtain ⟨w2, A2, n2, c2, hr2, b2, o2, bl2⟩ := app_emptyb t18' lo18 s1 (by omega)
  have n2l := o2.sl.len
  obtain ⟨gi, rfl, gi1, gi2, C2, t2⟩ := own_some o2 (by omega)
  have gi3 := bl2 gi rfl (by omega)
  have f2 := f1.step b2
  have off7 : 0 + ((d : Int)).toNat * 1 + 0 = d := by simp
  obtain ⟨ib, hib, hszb⟩ : ∃ i, Try.prog.info? 5 = some i ∧ i.size = 1 := by
    have hh : (Try.prog.info? 5).map (·.size) = some 1 := by kernel_rfl
    cases hp : Try.prog.info? 5 with
    | none => rw [hp] at hh; cases hh
    | some i => rw [hp] at hh; injection hh with hh; exact ⟨i, rfl, hh⟩
  obtain ⟨w3, hr3, o3, gr3⟩ := own_set_byte (P := Try.prog) (t := 5) hib hszb o2 d hd (xss[k][d] ^^^ 1)
  have f3 := fr_of_grown gr3
  have lo2 := b2.size
  have lo3 := f3.size
  have lt18 := heap_lt t18
  have at2 : CellsAt w2 gi (0 + d * 1 + 0) [.int .u8 (xss[k][d].toNat : Int)] := o2.sl.at_k d hd
  have f03 : Fr (fun b => b ∈ [g]) w w3 := f2.trans f3 (fun _ _ h => h) (fun j hj hm => by simp at hm; omega)
  refine ⟨w2, _, n2, c2, hr2, ok_ret b2 f1, by omega, by omega, gi, 0, rfl, _, at2, by omega, by omega, gi, 0, rfl, w3, by rw [off7, xor_one]; exact hr3, ⟨f03, f3.size, fun b hb hl => f3.block b hl fun hm => by simp at hb hm; omega⟩, ?_⟩
  have F13 : Fr (fun _ => False) w1 w3 := ((Fr.refl (fun _ => False) _).step b2).trans f3 (fun _ _ h => h) (fun j hj hm => by simp at hm; omega)
  have F03 : Fr (fun _ => False) w w3 := ((Fr.refl (fun _ => False) _).step b1).trans F13 (fun _ _ h => h) (fun _ _ h => h)
  have h3 := h.below (fr_below F03)
  have hc3 := cells_below hc (fr_below F03)
  obtain ⟨hs, q1, q2⟩ := hv.stk (stk_below (fr_below F03))
  have hsl := q2.1
  intro g37 hg37
  refine ⟨g, 0, rfl, fun w4 f4 b4 lo37 t37 => ?_⟩
  refine ⟨_, n, c, cells_below hc3 b4, fun t37' => ?_⟩
  obtain ⟨w5, A5, n5, c5, hr5, b5, o5, bl5⟩ := app_empty2 t37' lo37 (q1.below b4) (by omega)
  have n5l := o5.sl.len
  have lo4 := b4.size
  have lo5 := b5.size
  have B5 := b4.trans (b5.mono b4.size)
  have k5 := stk_below B5
  obtain ⟨gr, rfl, gr1, gr2, C5, t5⟩ := own_some o5 (by omega)
  refine ⟨w5, _, n5, c5, hr5, ok_ret b5 f4, g, 0, rfl, ?_⟩
  obtain ⟨w6, hr6, f6, h6, hg6⟩ := (h3.below B5).way (⟨hs, own_still o5 (by decide), q2.stk k5⟩ : Vw w5 _ xss) hl h.small
  have f05 := f4.step b5
  have f06 := f05.trans f6 (fun _ _ h => h) (fun _ _ h => h)
  have lo6 := f6.size
  refine ⟨w6, hr6, ⟨f06, f6.size, fun b hb hl' => f6.block b hl' fun hm => by simp at hb hm; omega⟩, g, 0, rfl, _, n5, c5, cells_row hg6 rfl, by omega, by omega, gr, 0, rfl, ?_⟩
  have o6 := OwnF.past o5 f6 fun k' hk' hm => by simp at hm; subst hm; injection hk' with hk'; simp at hk'; omega
  obtain ⟨i', hi', hsz'⟩ := info2'
  obtain ⟨w7, hr7, o7, gr7⟩ := own_set_hd (P := Try.prog) (t := 45) hi' hsz' o6 k (by omega) ⟨some ⟨gi, 0, none⟩, n2, c2⟩
  have f7 := fr_of_grown gr7
  have lo7 := f7.size
  have off6 : 0 + ((k : Int)).toNat * 1 + 0 = k := by simp
  have f07 : Fr (fun b => b ∈ [g]) w w7 := f06.trans f7 (fun _ _ h => h) (fun j hj hm => by simp at hm; omega)
  have hg7 : w7.heap[g]? = w6.heap[g]? := f7.block g (by omega) fun hm => by simp at hm; omega
  have gr3 := bl5 gr rfl (by omega)
  have lt37 := heap_lt t37
  have gne : gr ≠ g37 ∧ gr ≠ g18 ∧ gr ≠ gi := by omega
  refine ⟨w7, by rw [off6]; exact hr7, ⟨f07, f7.size, fun b hb hl' => f7.block b hl' fun hm => by simp at hb hm; omega⟩, ⟨⟨_, _, _, hg7.trans hg6, hs.set k _, own_still o7 (by decide), ?_⟩, h.six, h.rng, by rw [List.length_set]; exact hl, fun x hx => ?_⟩, f07, rfl⟩
  · have f37 : Fr (fun b => b ∈ [g]) w3 w7 := (((Fr.refl _ _).step b4).step b5 |>.trans f6 (fun _ _ h => h) (fun _ _ h => h)).trans f7 (fun _ _ h => h) (fun j hj hm => by simp at hm; omega)
    have k37 : StK w3 w7 := stk_fr f37 fun b hb => h3.loud b hb
    exact Al.set (q2.stk k37) k (Sl.stk (own_still o3 (by decide)) k37)
  · rcases List.mem_or_eq_of_mem_set hx with hx | rfl
    · exact h.small x hx
    · rw [List.length_set]; exact hsm
end
end Go.Proofs.Ytdjjfpcfclheiaa
