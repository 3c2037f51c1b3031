/- Frames: Same; unlike frames have unlike bytes; the law FrameApart. -/
import Derived.Test.YtolipmnmaikfcaaFrE
set_option linter.unusedSimpArgs false
set_option linter.unusedVariables false
namespace Go.Proofs.Ytolipmnmaikfcaa
open Go Go.RowKit Go.Proofs Go.Trc Go.Sx

theorem u8_inj {x y : Int} (hx : 0 ≤ x ∧ x < 256) (hy : 0 ≤ y ∧ y < 256) (h : u8 x = u8 y) : x = y := by
  have h1 := congrArg UInt8.toNat h
  have e : ∀ z : Int, 0 ≤ z ∧ z < 256 → (u8 z).toNat = z.toNat := fun z hz => by
    unfold u8
    rw [UInt8.toNat_ofNat', Int.emod_eq_of_lt hz.1 hz.2]
    omega
  rw [e x hx, e y hy] at h1
  omega
theorem u8_mod (x : Int) : u8 x = u8 (x % 256) := by unfold u8; rw [Int.emod_emod_of_dvd _ (Int.dvd_refl _)]
theorem fourV_inj {x y : Int} (hx : 0 ≤ x ∧ x < 4294967296) (hy : 0 ≤ y ∧ y < 4294967296) (h : fourV x = fourV y) : x = y := by
  unfold fourV at h
  simp only [List.cons.injEq, and_true] at h
  obtain ⟨h1, h2, h3, h4⟩ := h
  rw [fdiv_nn hx.1, fdiv_nn hy.1] at h1 h2 h3 h4
  have f : ∀ a b : Int, u8 a = u8 b → a % 256 = b % 256 := fun a b hab => by
    rw [u8_mod a, u8_mod b] at hab
    exact u8_inj ⟨Int.emod_nonneg _ (by decide), Int.emod_lt_of_pos _ (by decide)⟩ ⟨Int.emod_nonneg _ (by decide), Int.emod_lt_of_pos _ (by decide)⟩ hab
  have g1 := f _ _ h1
  have g2 := f _ _ h2
  have g3 := f _ _ h3
  have g4 := f _ _ h4
  simp only [show (2 : Int) ^ 24 = 16777216 from rfl, show (2 : Int) ^ 16 = 65536 from rfl, show (2 : Int) ^ 8 = 256 from rfl, show (2 : Int) ^ 0 = 1 from rfl] at g1 g2 g3 g4
  omega
theorem may_more {kd fr to ep sq ak : Int} {n : Nat} (h : mayF kd fr to ep sq ak n = 0) : (0 ≤ kd ∧ kd < 256) ∧ (0 ≤ fr ∧ fr < 256) ∧ (0 ≤ to ∧ to < 256) := by
  unfold mayF at h
  cases hh : headOk kd fr to ep sq ak with
  | false => rw [hh] at h; simp at h
  | true =>
    unfold headOk at hh
    simp only [Bool.and_eq_true, cnt, decide_eq_true_eq] at hh
    refine ⟨?_, ?_, ?_⟩ <;> omega
def sameF (kd fr to ep sq ak : Int) (bd : List UInt8) (kd' fr' to' ep' sq' ak' : Int) (bd' : List UInt8) : Bool := decide (kd = kd' ∧ fr = fr' ∧ to = to' ∧ ep = ep' ∧ sq = sq' ∧ ak = ak' ∧ bd = bd')
theorem putV_inj {kd fr to ep sq ak kd' fr' to' ep' sq' ak' : Int} {bd bd' : List UInt8} {n n' : Nat} (h1 : mayF kd fr to ep sq ak n = 0) (h2 : mayF kd' fr' to' ep' sq' ak' n' = 0) :
    decide (putV kd fr to ep sq ak bd = putV kd' fr' to' ep' sq' ak' bd') = sameF kd fr to ep sq ak bd kd' fr' to' ep' sq' ak' bd' := by
  unfold sameF
  apply decide_eq_decide.2
  constructor
  · intro h
    have hl := congrArg List.length h
    rw [put_len, put_len] at hl
    have hh := (List.append_inj h (by rw [head_len, head_len]; omega)).1
    obtain ⟨p1, p2, p3, _⟩ := may_facts h1
    obtain ⟨q1, q2, q3, _⟩ := may_facts h2
    obtain ⟨m1, m2, m3⟩ := may_more h1
    obtain ⟨k1, k2, k3⟩ := may_more h2
    unfold headV at hh
    have l4 : ∀ x, (fourV x).length = 4 := fun _ => rfl
    obtain ⟨hh, e7⟩ := List.append_inj hh (by simp [l4])
    obtain ⟨hh, e6⟩ := List.append_inj hh (by simp [l4])
    obtain ⟨hh, e5⟩ := List.append_inj hh (by simp [l4])
    obtain ⟨hh, e4⟩ := List.append_inj hh (by simp [l4])
    simp only [List.cons.injEq, and_true] at hh
    exact ⟨u8_inj m1 k1 hh.1, u8_inj m2 k2 hh.2.1, u8_inj m3 k3 hh.2.2, fourV_inj p1 q1 e4, fourV_inj p2 q2 e5, fourV_inj p3 q3 e6, e7⟩
  · rintro ⟨rfl, rfl, rfl, rfl, rfl, rfl, rfl⟩
    rfl

theorem str_eq (xs ys : List UInt8) : (((⟨xs.toArray⟩ : ByteArray)).toList == ((⟨ys.toArray⟩ : ByteArray)).toList) = decide (xs = ys) := by
  by_cases h : xs = ys
  · subst h; simp
  · rw [decide_eq_false h]
    simp only [beq_eq_false_iff_ne, ne_eq, bytes_toList_inj]
    intro h2
    apply h
    simpa using h2

set_option maxHeartbeats 2000000 in
theorem same_c {w : World} {kd fr to ep sq ak kd' fr' to' ep' sq' ak' : Int} {A A' : Option Addr} {n c n' c' : Nat} {bd bd' : List UInt8} {ok ok' : Nat → Prop} (h : Sl w ok (.slice A n c) bd) (h' : Sl w ok' (.slice A' n' c') bd') :
    Calls Try.prog 17 #[.agg #[.int .i64 kd, .int .i64 fr, .int .i64 to, .int .i64 ep, .int .i64 sq, .int .i64 ak, .slice A n c], .agg #[.int .i64 kd', .int .i64 fr', .int .i64 to', .int .i64 ep', .int .i64 sq', .int .i64 ak', .slice A' n' c']] w
      (Ret (.bool (sameF kd fr to ep sq ak bd kd' fr' to' ep' sq' ak' bd')) w) := by
  refine same_sx _ (fun _ => False) w kd fr to ep sq ak A n c kd' fr' to' ep' sq' ak' A' n' c' ?_
  intro g1 hg1 g2 hg2
  have no : ¬ (kd = kd' ∧ fr = fr' ∧ to = to' ∧ ep = ep' ∧ sq = sq' ∧ ak = ak' ∧ bd = bd') → sameF kd fr to ep sq ak bd kd' fr' to' ep' sq' ak' bd' = false := fun h => decide_eq_false h
  refine ⟨fun e1 => ⟨fun e2 => ⟨fun e3 => ⟨fun e4 => ⟨fun e5 => ⟨fun e6 w1 f1 b1 => ?_, fun x w1 f1 b1 => ret_leaf f1 ?_⟩, fun x w1 f1 b1 => ret_leaf f1 ?_⟩, fun x w1 f1 b1 => ret_leaf f1 ?_⟩, fun x w1 f1 b1 => ret_leaf f1 ?_⟩, fun x w1 f1 b1 => ret_leaf f1 ?_⟩, fun x w1 f1 b1 => ret_leaf f1 ?_⟩
  · refine ⟨_, str_c (h.below b1), _, str_c (h'.below b1), ret_leaf f1 ?_⟩
    rw [str_eq]
    unfold sameF
    simp [e1, e2, e3, e4, e5, e6]
  all_goals (rw [no (fun q => x (by simp [q]))])

theorem eql_bool (W : World) (x y : Bool) : (binOp .eql 4 (.bool x) (.bool y)).run Try.prog W = .ok (.bool (x == y)) W := by
  go_simp

/-- The end of the law. -/
theorem apart_end {w w6 : World} {kd fr to ep sq ak kd' fr' to' ep' sq' ak' : Int} {A A' A5 : Option Addr} {n c n' c' n5 c5 : Nat} {bd bd' : List UInt8} {G : List Nat} (f6 : Fr (fun _ => False) w w6)
    (hm : mayF kd fr to ep sq ak n = 0) (o5 : Sl w6 (fun _ => True) (.slice A5 n5 c5) (putV kd fr to ep sq ak bd)) (hbd : Sl w6 (fun _ => True) (.slice A n c) bd) (hbd' : Sl w6 (fun _ => True) (.slice A' n' c') bd')
    (hr : ∀ v ∈ [ep', sq', ak'], -9223372036854775808 ≤ v ∧ v ≤ 9223372036854775807) :
    Calls Try.prog 11 #[.agg #[.int .i64 kd', .int .i64 fr', .int .i64 to', .int .i64 ep', .int .i64 sq', .int .i64 ak', .slice A' n' c']] w6 fun r w7 => ∃ A27 : Option Addr, ∃ n28 : Nat, ∃ n29 : Nat, ∃ i30 : Int, r = .returned (.tuple #[.slice A27 n28 n29, .int .i64 i30]) ∧ (Fr (fun _ => False) w w7 ∧ Mild G w6 w7) ∧
      (Calls Try.prog 17 #[.agg #[.int .i64 kd, .int .i64 fr, .int .i64 to, .int .i64 ep, .int .i64 sq, .int .i64 ak, .slice A n c], .agg #[.int .i64 kd', .int .i64 fr', .int .i64 to', .int .i64 ep', .int .i64 sq', .int .i64 ak', .slice A' n' c']] w7
        fun r w8 => ∃ b31 : Bool, r = .returned (.bool b31) ∧ (Fr (fun _ => False) w w8 ∧ Mild G w7 w8) ∧
        ((true = true →
        (((n5 : Int) = (IntKind.i64.wrap ((19 : Int) + (n : Int))) →
         ((¬ i30 = (0 : Int) →
          (Ret (.bool true) w (.returned (.bool true)) w8)) ∧
          (i30 = (0 : Int) →
          (∃ s32 : ByteArray, (convert 22 9 (.slice A5 n5 c5)).run Try.prog w8 = .ok (.string s32) w8 ∧
           (∃ s33 : ByteArray, (convert 22 9 (.slice A27 n28 n29)).run Try.prog w8 = .ok (.string s33) w8 ∧
           (∃ b34 : Bool, (binOp .eql 4 (.bool ((s32).toList == (s33).toList)) (.bool b31)).run Try.prog w8 = .ok (.bool b34) w8 ∧
           (Ret (.bool true) w (.returned (.bool b34)) w8))))))) ∧
         (¬ (n5 : Int) = (IntKind.i64.wrap ((19 : Int) + (n : Int))) →
         (Ret (.bool true) w (.returned (.bool false)) w8)))) ∧
        (true = false →
        (Ret (.bool true) w (.returned (.bool false)) w8)))) := by
  refine (put_c hr hbd').mono ?_
  rintro e w7 ⟨A7, n7, c7, rfl, o7, b7⟩
  have f7 := f6.step b7
  refine ⟨A7, n7, c7, _, rfl, ok_ret b7 f6, ?_⟩
  refine (same_c (hbd.below b7) (hbd'.below b7)).mono ?_
  rintro e w8 ⟨rfl, b8⟩
  have f8 := f7.step b8
  have hn := hbd.len
  have hn5 := o5.len
  rw [put_len] at hn5
  have hle := (may_facts hm).2.2.2
  refine ⟨_, rfl, ok_ret b8 f7, fun _ => ⟨fun _ => ⟨fun _ => ret_leaf f8 rfl, fun h0 => ?_⟩, fun h => ?_⟩, fun h => by cases h⟩
  · rw [if_pos h0] at o7
    have q5 := (o5.below b7).below b8
    have q7 := PutR.sl (m := 0) (o7.below b8)
    refine ⟨_, str_c q5, _, str_c q7, _, eql_bool _ _ _, ret_leaf f8 ?_⟩
    rw [str_eq, putV_inj hm h0]
    simp
  · exfalso
    apply h
    rw [wrap_in (by omega)]
    omega

theorem own_ne {w : World} {base g : Nat} {e t : TypeId} {v : Value} {xs : List UInt8} {C : Array Value} {fr : Nat × Nat} (h : OwnF w base e v xs) (hg : w.heap[g]? = some (.cells C t fr)) (ht : t ≠ e) : v.ownBlock ≠ some g := by
  obtain ⟨cs, ⟨_, h2⟩, _⟩ := h
  rcases h2 with ⟨rfl, _⟩ | ⟨g', cap, cur, rfl, _, hg', _⟩
  · simp [Value.ownBlock]
  · intro he
    injection he with he
    have he : g' = g := he
    subst he
    rw [hg] at hg'
    injection hg' with hg'
    injection hg' with _ h5
    exact ht h5

set_option maxHeartbeats 4000000 in
theorem frameApart_wk {w : World} {kd fr to ep sq ak : Int} {A : Option Addr} {n c : Nat} {bd : List UInt8} (hr : ∀ v ∈ [ep, sq, ak], -9223372036854775808 ≤ v ∧ v ≤ 9223372036854775807) (hbd : Sl w (fun b => b < w.heap.size) (.slice A n c) bd)
    (wh x : Int) (hx : -9223372036854775808 ≤ x ∧ x ≤ 9223372036854775807) :
    Calls Try.prog 4 #[.agg #[.int .i64 kd, .int .i64 fr, .int .i64 to, .int .i64 ep, .int .i64 sq, .int .i64 ak, .slice A n c], .int .i64 wh, .int .i64 x] w (Ret (.bool true) w) := by
  refine frameApart_sx _ (fun _ => False) w kd fr to ep sq ak A n c wh x ?_
  intro g11 hg11 w1 f1 b1 hlo11 t11
  refine (shown_c w1).mono ?_
  rintro e w2 ⟨rfl, b2⟩
  have f2 := f1.step b2
  refine ⟨_, rfl, ok_ret b2 f1, ?_⟩
  refine (few_c (hbd.below (fr_below f2))).mono ?_
  rintro e w3 ⟨A', n', c', rfl, s3, b3⟩
  have f3 := f2.step b3
  refine ⟨_, _, _, _, _, _, A', n', c', rfl, ok_ret b3 f2, fun _ w4 f4 _ => ret_leaf f4 rfl, fun hn w4 f4 q4 => ?_⟩
  have s4 := Sl.same s3 f2 f4
  generalize bd.take 16400 = bd at s3 s4
  refine (put_c hr (Sl.any s4)).mono ?_
  rintro e w5 ⟨A5, n5, c5, rfl, o5, b5⟩
  have f5 := f4.step b5
  refine ⟨A5, n5, c5, _, rfl, ok_ret b5 f4, fun hne => ⟨fun _ => ?_, fun h => by cases h⟩, fun hm g26 hg26 => ?_⟩
  · rw [if_neg hne] at o5
    have := (o5.to (ok := fun _ => True) fun _ _ => trivial).len
    exact ret_leaf f5 (by simp [this])
  rw [if_pos hm] at o5
  have ho : ∀ {w6 : World}, Below w5.heap.size w5 w6 → Sl w6 (fun _ => True) (.slice A5 n5 c5) (putV kd fr to ep sq ak bd) := fun b => (o5.to fun _ _ => trivial).below b
  have hs : ∀ {w6 : World}, Fr (fun _ => False) w w6 → Sl w6 (fun _ => True) (.slice A' n' c') bd := fun f => Sl.any (Sl.same s4 f4 f)
  have r1 : ∀ v ∈ [x, sq, ak], -9223372036854775808 ≤ v ∧ v ≤ 9223372036854775807 := by
    intro v hv; simp only [List.mem_cons, List.not_mem_nil, or_false] at hv
    rcases hv with rfl | rfl | rfl
    · exact hx
    · exact hr _ (by simp)
    · exact hr _ (by simp)
  have r2 : ∀ v ∈ [ep, x, ak], -9223372036854775808 ≤ v ∧ v ≤ 9223372036854775807 := by
    intro v hv; simp only [List.mem_cons, List.not_mem_nil, or_false] at hv
    rcases hv with rfl | rfl | rfl
    · exact hr _ (by simp)
    · exact hx
    · exact hr _ (by simp)
  have r3 : ∀ v ∈ [ep, sq, x], -9223372036854775808 ≤ v ∧ v ≤ 9223372036854775807 := by
    intro v hv; simp only [List.mem_cons, List.not_mem_nil, or_false] at hv
    rcases hv with rfl | rfl | rfl
    · exact hr _ (by simp)
    · exact hr _ (by simp)
    · exact hx
  refine ⟨fun _ w6 f6 b6 _ _ => apart_end f6 hm (ho b6) (hs f6) (hs f6) hr, fun _ => ⟨fun _ w6 f6 b6 _ _ => apart_end f6 hm (ho b6) (hs f6) (hs f6) hr, fun _ => ⟨fun _ w6 f6 b6 _ _ => apart_end f6 hm (ho b6) (hs f6) (hs f6) hr, fun _ =>
    ⟨fun _ w6 f6 b6 _ _ => apart_end f6 hm (ho b6) (hs f6) (hs f6) r1, fun _ => ⟨fun _ w6 f6 b6 _ _ => apart_end f6 hm (ho b6) (hs f6) (hs f6) r2, fun _ => ⟨fun _ w6 f6 b6 _ _ => apart_end f6 hm (ho b6) (hs f6) (hs f6) r3, fun _ => ?_⟩⟩⟩⟩⟩⟩
  intro g27 hg27 w6 f6 b6 lo27 t27 lo26 t26
  have g11lt : g11 < w6.heap.size := Nat.lt_of_lt_of_le (heap_lt t11) (Nat.le_trans (Nat.le_trans b2.size b3.size) (Nat.le_trans q4.size (Nat.le_trans b5.size b6.size)))
  have r6 : Rw none w5 w5.heap.size 5 w6 (.slice (some ⟨g27, 0, none⟩) 0 0) ([] : List UInt8) [g27, g26, g11] := by
    refine ⟨OwnF.bytes [] 0 rfl lo27 t27 (by decide), none_fr ((Fr.refl _ _).step b6), fun k hk => (by rw [tail_full] at hk; cases hk), ?_, Nat.le_refl _⟩
    intro g hg
    simp only [List.mem_cons, List.not_mem_nil, or_false] at hg
    rcases hg with rfl | rfl | rfl
    · exact heap_lt t27
    · exact heap_lt t26
    · exact g11lt
  have hlen := (hs f6).len
  obtain ⟨w7, A7, n7, c7, hr7, m7, r7⟩ := r6.append 22 22 (.int .u8 0) 1 Try.underlying22 (by kernel_rfl) rfl (hs f6).arg (by simp; omega) (by simp; omega)
  have up : ∀ {w' : World}, Fr (fun b => some b = none) w5 w' → Fr (fun _ => False) w w' := fun g => f5.step (fr_below (fr_none g))
  refine ⟨w7, A7, n7, c7, hr7, ⟨up m7.1, m7.2⟩, ?_⟩
  intro g31 hg31 w8 f8 b8 lo31 t31
  have r8 := r7.on b8 [g31] (by simp only [List.mem_singleton]; rintro _ rfl; exact ⟨lo31, heap_lt t31⟩)
  obtain ⟨w9, A9, n9, c9, hr9, m9, r9⟩ := r8.append 22 22 (.int .u8 0) 1 Try.underlying22 (by kernel_rfl) rfl (arg1 t31) (by simp; omega) (by simp; omega)
  refine ⟨w9, A9, n9, c9, hr9, ⟨up m9.1, m9.2⟩, ?_⟩
  intro w10 f10 q10
  have t9 : w9.heap[g26]? = w6.heap[g26]? := by
    rw [m9.2.2 g26 (by simp) (Nat.lt_of_lt_of_le (heap_lt t26) (Nat.le_trans m7.2.1 b8.size)), b8.block g26 (Nat.lt_of_lt_of_le (heap_lt t26) m7.2.1), m7.2.2 g26 (by simp) (heap_lt t26)]
  have k10 : w9.grownBy w10 (some g26) := ⟨q10.os, q10.tape, q10.output, q10.size, fun k hk hne => q10.block k hk (fun h => hne (by simp at h; rw [h]))⟩
  have o10 : OwnF w10 w5.heap.size 5 (.slice A9 n9 c9) (([] ++ bd) ++ [u8 x]) := r9.own.keep k10 (.inr (own_ne r9.own (t9.trans t26) (by decide)))
  refine apart_end f10 hm ?_ (hs f10) (OwnF.to o10 fun _ _ => trivial) hr
  have s5 : Sl w5 (fun b => True ∧ b < w5.heap.size) (.slice A5 n5 c5) (putV kd fr to ep sq ak bd) := Sl.bound (OwnF.to o5 fun _ _ => trivial)
  refine s5.mono fun b hb hl => ⟨trivial, ?_⟩
  rw [k10.block b (Nat.lt_of_lt_of_le hl m9.1.size) (fun h => by injection h with h; omega)]
  exact m9.1.block b hl (fun h => by cases h)
end Go.Proofs.Ytolipmnmaikfcaa
