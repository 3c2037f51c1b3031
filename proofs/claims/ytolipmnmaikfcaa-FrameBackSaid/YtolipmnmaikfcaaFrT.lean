/- Frames: the law FrameSums. -/
import Derived.Test.YtolipmnmaikfcaaFrE
import Derived.Test.YtolipmnmaikfcaaCrcL
set_option linter.unusedSimpArgs false
set_option linter.unusedVariables false
namespace Go.Proofs.Ytolipmnmaikfcaa
open Go Go.RowKit Go.Proofs Go.Trc Go.Sx

theorem run_min4 {P : Program} (w : World) (ts : Array TypeId) (t : TypeId) (a b c d : Int) :
    (Builtin.min_ ts t #[.int .i64 a, .int .i64 b, .int .i64 c, .int .i64 d]).run P w = .ok (.int .i64 (min (min (min a b) c) d)) w := by
  have e : ∀ x y : Int, (if y < x then y else x) = min x y := fun x y => by rw [Int.min_def]; split <;> split <;> omega
  simp [Builtin.min_, Builtin.min2, e]
theorem u8w {m : Nat} (h : m < 256) : IntKind.u8.wrap (m : Int) = m := by simp [IntKind.wrap, IntKind.bits, IntKind.signed]; omega
theorem bits8_xor (x y : UInt8) : bits .xor .u8 (x.toNat : Int) (y.toNat : Int) = ((x ^^^ y).toNat : Int) := by
  show IntKind.u8.wrap ((BitVec.ofInt 8 (x.toNat : Int) ^^^ BitVec.ofInt 8 (y.toNat : Int)).toNat : Int) = _
  have h : ∀ z : UInt8, BitVec.ofInt 8 (z.toNat : Int) = z.toBitVec := fun z => by rw [BitVec.ofInt_natCast]; show BitVec.ofNat 8 z.toBitVec.toNat = z.toBitVec; simp
  rw [h, h, ← UInt8.toBitVec_xor]
  exact u8w (x ^^^ y).toNat_lt
theorem Rw.less {S0 : Option Nat} {w0 w : World} {base : Nat} {e : TypeId} {v : Value} {xs : List UInt8} {G G' : List Nat} (h : Rw S0 w0 base e w v xs G) (hs : ∀ g ∈ G', g ∈ G) : Rw S0 w0 base e w v xs G' :=
  ⟨h.own, h.fr, fun k hk => ⟨(h.blk k hk).1, fun hm => (h.blk k hk).2 (hs k hm)⟩, fun g hg => h.names g (hs g hg), h.le⟩
theorem nz_take (ys : List UInt8) (i : Nat) (hi : i < ys.length) : nz (ys.take (i + 1)) = nz (ys.take i) + if ys[i] = 0 then 0 else 1 := by
  unfold nz
  rw [List.take_succ_eq_append_getElem hi, List.filter_append, List.length_append]
  congr 1
  by_cases h : ys[i] = 0 <;> simp [h]
theorem nz_le (ys : List UInt8) : nz ys ≤ ys.length := List.length_filter_le _ _
theorem zip_take (xs ys : List UInt8) (i : Nat) (h1 : i < xs.length) (h2 : i < ys.length) : List.zipWith (· ^^^ ·) (xs.take (i + 1)) (ys.take (i + 1)) = List.zipWith (· ^^^ ·) (xs.take i) (ys.take i) ++ [xs[i] ^^^ ys[i]] := by
  rw [List.take_succ_eq_append_getElem h1, List.take_succ_eq_append_getElem h2, List.zipWith_append (by simp; omega)]
  rfl
theorem elem_at {w : World} {ok : Nat → Prop} {b o n c : Nat} {xs : List UInt8} (h : Sl w ok (.slice (some ⟨b, o, none⟩) n c) xs) (i : Nat) (hi : i < xs.length) : CellsAt w b (o + i * 1 + 0) [.int .u8 (xs[i].toNat : Int)] := by
  obtain ⟨b', o', e1, -, cs, hcs, hat⟩ := h.elem i hi
  injection e1 with e1; injection e1 with e1 e2; subst e1; subst e2
  have : cs = [.int .u8 (xs[i].toNat : Int)] := hcs
  rw [← this]; exact hat
theorem u8_zero (x : UInt8) : ((x.toNat : Int) = 0) ↔ x = 0 := by
  constructor
  · intro h; apply UInt8.toNat_inj.1; simpa using h
  · intro h; subst h; rfl

set_option maxHeartbeats 8000000 in
theorem frameSums_wk {w : World} {A A' A2 : Option Addr} {n c n' c' n2 c2 : Nat} {xs ys bz : List UInt8} (h1 : Sl w (fun b => b < w.heap.size) (.slice A n c) xs) (h2 : Sl w (fun b => b < w.heap.size) (.slice A' n' c') ys) (h3 : Sl w (fun b => b < w.heap.size) (.slice A2 n2 c2) bz) :
    Calls Try.prog 5 #[.slice A n c, .slice A' n' c', .slice A2 n2 c2] w (Ret (.bool true) w) := by
  have l1 := h1.len_eq
  have l2 := h2.len_eq
  have l3 := h3.len_eq
  refine frameSums_sx _ (fun _ => False) w A n c A' n' c' A2 n2 c2 ?_
  refine (shown_c w).mono ?_
  rintro e w1 ⟨rfl, b1⟩
  have f1 := (Fr.refl (fun _ => False) w).step b1
  refine ⟨_, rfl, ok_ret b1 (Fr.refl _ _), _, run_min4 w1 _ _ _ _ _ _, ?_⟩
  obtain ⟨N, hN, k1, k2, k3, k4⟩ : ∃ N : Nat, min (min (min (n : Int) (n' : Int)) (n2 : Int)) 300 = N ∧ N ≤ n ∧ N ≤ n' ∧ N ≤ n2 ∧ N ≤ 300 := ⟨(min (min (min n n') n2) 300), by omega, by omega, by omega, by omega, by omega⟩
  rw [hN]
  intro g11 hg11 g12 hg12
  refine ⟨fun A13 n14 c15 A16 n17 c18 many k w3 => ∃ i : Nat, i ≤ N ∧ k = i ∧ many = (nz (bz.take i) : Int) ∧ Rw none w w.heap.size 5 w3 (.slice A13 n14 c15) (List.zipWith (· ^^^ ·) (xs.take i) (bz.take i)) [g12, g11] ∧
      Rw none w w.heap.size 5 w3 (.slice A16 n17 c18) (List.zipWith (· ^^^ ·) (ys.take i) (bz.take i)) [g12, g11] ∧ (∀ k, tail (.slice A13 n14 c15) = some k → (Value.slice A16 n17 c18).ownBlock ≠ some k) ∧ (∀ k, tail (.slice A16 n17 c18) = some k → (Value.slice A13 n14 c15).ownBlock ≠ some k),
    fun _ _ _ _ _ _ _ k _ => N - k.toNat, fun w2 f2 b2 lo12 t12 lo11 t11 => ⟨0, by omega, rfl, rfl, ?_, ?_, ?_, ?_⟩, ?_⟩
  · refine ⟨OwnF.bytes [] 0 rfl hg11 t11 (by decide), none_fr f2, fun k hk => (by rw [tail_full] at hk; cases hk), ?_, Nat.le_refl _⟩
    intro g hg
    simp only [List.mem_cons, List.not_mem_nil, or_false] at hg
    rcases hg with rfl | rfl
    · exact heap_lt t12
    · exact heap_lt t11
  · refine ⟨OwnF.bytes [] 0 rfl hg12 t12 (by decide), none_fr f2, fun k hk => (by rw [tail_full] at hk; cases hk), ?_, Nat.le_refl _⟩
    intro g hg
    simp only [List.mem_cons, List.not_mem_nil, or_false] at hg
    rcases hg with rfl | rfl
    · exact heap_lt t12
    · exact heap_lt t11
  · intro k hk; rw [tail_full] at hk; cases hk
  · intro k hk; rw [tail_full] at hk; cases hk
  rintro A13 n14 c15 A16 n17 c18 _ _ w3 f3 ⟨i, hi, rfl, rfl, rx, ry, d1, d2⟩
  refine ⟨fun hlt => ?_, fun hge => ?_⟩
  · have i1 : i < xs.length := by omega
    have i2 : i < ys.length := by omega
    have i3 : i < bz.length := by omega
    have lz : ∀ zs : List UInt8, (List.zipWith (fun x1 x2 => x1 ^^^ x2) (List.take i zs) (List.take i bz)).length ≤ 300 := fun zs => by simp; omega
    obtain ⟨p1, o1, rfl, q1, -⟩ := h1.elem i i1
    obtain ⟨p2, o2, rfl, q2, -⟩ := h2.elem i i2
    obtain ⟨p3, o3, rfl, q3, -⟩ := h3.elem i i3
    have at1 : ∀ {w' : World}, Fr (fun _ => False) w w' → CellsAt w' p1 (o1 + ((i : Int)).toNat * 1 + 0) [.int .u8 (xs[i].toNat : Int)] := fun f => elem_at (h1.below (fr_below f)) i i1
    have at2 : ∀ {w' : World}, Fr (fun _ => False) w w' → CellsAt w' p2 (o2 + ((i : Int)).toNat * 1 + 0) [.int .u8 (ys[i].toNat : Int)] := fun f => elem_at (h2.below (fr_below f)) i i2
    have at3 : ∀ {w' : World}, Fr (fun _ => False) w w' → CellsAt w' p3 (o3 + ((i : Int)).toNat * 1 + 0) [.int .u8 (bz[i].toNat : Int)] := fun f => elem_at (h3.below (fr_below f)) i i3
    refine ⟨by omega, by omega, p1, o1, rfl, fun w4 f4 b4 => ⟨_, at1 f4, ⟨Nat.lt_of_lt_of_le q1 f3.size, by simp⟩, by omega, by omega, p3, o3, rfl, _, at3 f4, ⟨Nat.lt_of_lt_of_le q3 f3.size, by simp⟩, ?_⟩⟩
    intro g28 hg28 w5 f5 b5 lo28 t28
    rw [bits8_xor] at t28
    have rx5 := (rx.below b4).on b5 [g28] (by simp only [List.mem_singleton]; rintro _ rfl; exact ⟨lo28, heap_lt t28⟩)
    have ry5 := (ry.below b4).on b5 [g28] (by simp only [List.mem_singleton]; rintro _ rfl; exact ⟨lo28, heap_lt t28⟩)
    obtain ⟨w6, A6, n6, c6, hr6, m6, rx6, gr6, ob6, tl6⟩ := rx5.append2 22 22 (.int .u8 0) 1 Try.underlying22 (by kernel_rfl) rfl (arg_bytes [xs[i] ^^^ bz[i]] 1 rfl (by decide) t28) (by have := lz xs; simp only [List.length_singleton]; omega) (by have := lz xs; simp only [List.length_singleton]; omega)
    refine ⟨w6, A6, n6, c6, hr6, ⟨fr_none m6.1, m6.2⟩, ?_⟩
    have ry6 := ry5.aside gr6 (fun k hk => ⟨((rx5.blk k hk).1).resolve_left (fun h => by cases h), d1 k hk, (rx5.blk k hk).2⟩)
    have f6 := fr_none m6.1
    refine ⟨by omega, by omega, p2, o2, rfl, fun w7 f7 b7 => ⟨_, at2 f7, ⟨Nat.lt_of_lt_of_le q2 f6.size, by simp⟩, by omega, by omega, p3, o3, rfl, _, at3 f7, ⟨Nat.lt_of_lt_of_le q3 f6.size, by simp⟩, ?_⟩⟩
    intro g39 hg39 w8 f8 b8 lo39 t39
    rw [bits8_xor] at t39
    have rx8 := (rx6.below b7).on b8 [g39] (by simp only [List.mem_singleton]; rintro _ rfl; exact ⟨lo39, heap_lt t39⟩)
    have ry8 := (ry6.below b7).on b8 [g39] (by simp only [List.mem_singleton]; rintro _ rfl; exact ⟨lo39, heap_lt t39⟩)
    obtain ⟨w9, A9, n9, c9, hr9, m9, ry9, gr9, ob9, tl9⟩ := ry8.append2 22 22 (.int .u8 0) 1 Try.underlying22 (by kernel_rfl) rfl (arg_bytes [ys[i] ^^^ bz[i]] 1 rfl (by decide) t39) (by have := lz ys; simp only [List.length_singleton]; omega) (by have := lz ys; simp only [List.length_singleton]; omega)
    refine ⟨w9, A9, n9, c9, hr9, ⟨fr_none m9.1, m9.2⟩, by omega, by omega, p3, o3, rfl, _, at3 (fr_none m9.1), ?_⟩
    have s35 : w3.heap.size ≤ w5.heap.size := Nat.le_trans b4.size b5.size
    have s68 : w6.heap.size ≤ w8.heap.size := Nat.le_trans b7.size b8.size
    have s56 := m6.2.1
    have e2 : ∀ k, tail (.slice A16 n17 c18) = some k → (Value.slice A6 n6 c6).ownBlock ≠ some k := fun k hk h => by
      have := tail_lt ry.own hk
      rcases ob6 k h with h5 | h5
      · exact d2 k hk h5
      · omega
    have rx9 := rx8.aside gr9 (fun k hk => ⟨((ry8.blk k hk).1).resolve_left (fun h => by cases h), e2 k hk, (ry8.blk k hk).2⟩)
    have dd1 : ∀ k, tail (.slice A6 n6 c6) = some k → (Value.slice A9 n9 c9).ownBlock ≠ some k := fun k hk h => by
      have k6 := tail_lt rx6.own hk
      rcases ob9 k h with h5 | h5
      · rcases tl6 k hk with h6 | h6
        · exact d1 k h6 h5
        · have := (ry.own.lt k h5).2; omega
      · omega
    have dd2 : ∀ k, tail (.slice A9 n9 c9) = some k → (Value.slice A6 n6 c6).ownBlock ≠ some k := fun k hk h => by
      have k6 := (rx6.own.lt k h).2
      rcases tl9 k hk with h5 | h5
      · exact e2 k h5 h
      · omega
    have G9 : ∀ g ∈ [g12, g11], g ∈ [g39] ++ ([g28] ++ [g12, g11]) := by intro g hg; simp only [List.mem_append]; exact .inr (.inr hg)
    have hz := nz_take bz i i3
    have hzl := nz_le (bz.take i)
    have hzl2 : (bz.take i).length ≤ 300 := by simp; omega
    refine ⟨fun hne => ?_, fun heq => ?_⟩
    · rw [wrap_in (by omega), wrap_in (by omega)]
      rw [if_neg (fun h => hne ((u8_zero _).2 h))] at hz
      exact ⟨⟨i + 1, by omega, by omega, by omega, by rw [zip_take _ _ _ i1 i3]; exact Rw.less rx9 G9, by rw [zip_take _ _ _ i2 i3]; exact Rw.less ry9 G9, dd1, dd2⟩, by dsimp only; omega⟩
    · rw [wrap_in (by omega)]
      rw [if_pos ((u8_zero _).1 heq)] at hz
      exact ⟨⟨i + 1, by omega, by omega, by omega, by rw [zip_take _ _ _ i1 i3]; exact Rw.less rx9 G9, by rw [zip_take _ _ _ i2 i3]; exact Rw.less ry9 G9, dd1, dd2⟩, by dsimp only; omega⟩
  · obtain rfl : i = N := by omega
    have hs1 := run_slice_hi (P := Try.prog) (w := w3) 22 5 _ Try.underlying22 rfl A n c i (by omega)
    refine ⟨_, _, _, hs1, ?_⟩
    have sl1 : Sl w3 (fun b => b < w.heap.size) (.slice (if c = 0 then A else A.map (·.add 0)) i c) (xs.take i) := by
      have h := (h1.below (fr_below f3)).take i c (by omega) (by omega) (by omega)
      by_cases hc : c = 0
      · rw [if_pos hc]; exact h
      · rw [if_neg hc]
        have : A.map (·.add 0) = A := by
          cases A with
          | none => rfl
          | some a => obtain ⟨b, o, s⟩ := a; cases s <;> simp [Addr.add]
        rw [this]; exact h
    refine (sum_c sl1).mono ?_
    rintro e w4 ⟨rfl, b4⟩
    have f4 := f3.step b4
    refine ⟨_, rfl, ok_ret b4 f3, ?_⟩
    refine (sum_c ((rx.below b4).own.to (ok := fun _ => True) fun _ _ => trivial)).mono ?_
    rintro e w5 ⟨rfl, b5⟩
    have f5 := f4.step b5
    refine ⟨_, rfl, ok_ret b5 f4, ?_⟩
    have hs2 := run_slice_hi (P := Try.prog) (w := w5) 22 5 _ Try.underlying22 rfl A' n' c' i (by omega)
    refine ⟨_, _, _, hs2, ?_⟩
    have sl2 : Sl w5 (fun b => b < w.heap.size) (.slice (if c' = 0 then A' else A'.map (·.add 0)) i c') (ys.take i) := by
      have h := (h2.below (fr_below f5)).take i c' (by omega) (by omega) (by omega)
      by_cases hc : c' = 0
      · rw [if_pos hc]; exact h
      · rw [if_neg hc]
        have : A'.map (·.add 0) = A' := by
          cases A' with
          | none => rfl
          | some a => obtain ⟨b, o, s⟩ := a; cases s <;> simp [Addr.add]
        rw [this]; exact h
    refine (sum_c sl2).mono ?_
    rintro e w6 ⟨rfl, b6⟩
    have f6 := f5.step b6
    refine ⟨_, rfl, ok_ret b6 f5, ?_⟩
    refine (sum_c ((((ry.below b4).below b5).below b6).own.to (ok := fun _ => True) fun _ _ => trivial)).mono ?_
    rintro e w7 ⟨rfl, b7⟩
    have f7 := f6.step b7
    refine ⟨_, rfl, ok_ret b7 f6, fun _ => ?_, fun h => by cases h⟩
    rw [bits_xor, bits_xor, sum_turn _ _ (by simp; omega), sum_turn _ _ (by simp; omega)]
    have z0 : nz (bz.take i) = 0 → ((crcV 0 (bz.take i)).toNat : Int) = 0 := fun h => by rw [(crc_still 0 _ h).2 rfl]; rfl
    refine ⟨fun _ => ⟨fun hne => ⟨fun _ => ret_leaf f7 rfl, fun hle => ret_leaf f7 ?_⟩, fun he => ⟨fun _ => ⟨fun _ => ret_leaf f7 rfl, fun hle => absurd hle (by omega)⟩, fun hz => ?_⟩⟩, fun h => absurd rfl h⟩
    · rw [z0 (by omega)]; rfl
    · exfalso
      refine crc_one (bz.take i) (by omega) ?_
      apply BitVec.eq_of_toNat_eq
      simpa using hz
end Go.Proofs.Ytolipmnmaikfcaa
