/- Frames: the law FrameTakes. -/
import Derived.Test.YtolipmnmaikfcaaFrY
import Derived.Test.YtolipmnmaikfcaaFrM
import Derived.Test.YtolipmnmaikfcaaRead
set_option linter.unusedSimpArgs false
set_option linter.unusedVariables false
namespace Go.Proofs.Ytolipmnmaikfcaa
open Go Go.RowKit Go.Proofs Go.Trc Go.Sx

theorem same_self (kd fr to ep sq ak : Int) (bd : List UInt8) : sameF kd fr to ep sq ak bd kd fr to ep sq ak bd = true := by simp [sameF]
/-- Two that were taken from the same bytes. -/
theorem taken_same {w : World} {A A' : Option Addr} {n c n' c' : Nat} {bs : List UInt8} {ok ok' : Nat → Prop} (s1 : Sl w ok (.slice A n c) (takeV bs).1.bd) (s2 : Sl w ok' (.slice A' n' c') (takeV bs).1.bd) :
    Calls Try.prog 17 #[.agg #[.int .i64 (takeV bs).1.kd, .int .i64 (takeV bs).1.fr, .int .i64 (takeV bs).1.to, .int .i64 (takeV bs).1.ep, .int .i64 (takeV bs).1.sq, .int .i64 (takeV bs).1.ak, .slice A n c], .agg #[.int .i64 (takeV bs).1.kd, .int .i64 (takeV bs).1.fr, .int .i64 (takeV bs).1.to, .int .i64 (takeV bs).1.ep, .int .i64 (takeV bs).1.sq, .int .i64 (takeV bs).1.ak, .slice A' n' c']] w (Ret (.bool true) w) := by
  have := same_c (kd := (takeV bs).1.kd) (fr := (takeV bs).1.fr) (to := (takeV bs).1.to) (ep := (takeV bs).1.ep) (sq := (takeV bs).1.sq) (ak := (takeV bs).1.ak) (kd' := (takeV bs).1.kd) (fr' := (takeV bs).1.fr) (to' := (takeV bs).1.to) (ep' := (takeV bs).1.ep) (sq' := (takeV bs).1.sq) (ak' := (takeV bs).1.ak) s1 s2
  rwa [same_self] at this
theorem Sl.here {w : World} {ok : Nat → Prop} {v : Value} {xs : List UInt8} (h : Sl w ok v xs) : Sl w (fun b => b < w.heap.size) v xs := h.bound.weaken fun _ h _ => h.2

def sumB (xs : List UInt8) : List UInt8 := (fourV ((sumV xs).toNat : Int)).reverse
set_option maxHeartbeats 4000000 in
theorem frameTakes_rest {w w1 : World} {A0 : Option Addr} {n1 n2 : Nat} {xs : List UInt8} {b3 : Bool} (f1 : Fr (fun _ => False) w w1) (h : Sl w1 (fun b => b < w.heap.size) (.slice A0 n1 n2) xs) (hl : n1 ≤ 1000) :
∀ g5 : Nat, w.heap.size ≤ g5 → (∀ w2 : World, Go.Sx.Fr (fun _ => False) w w2 → Below w1.heap.size w1 w2 → w1.heap.size ≤ g5 → w2.heap[g5]? = some (.cells #[] 5 (0, 0)) → 
  ∃ w3 : World, ∃ A6 : Option Addr, ∃ n7 : Nat, ∃ n8 : Nat, (Builtin.append_ #[22, 22] 22 #[(.slice (some ⟨g5, 0, none⟩) 0 0), (.slice A0 n1 n2)]).run Try.prog w2 = .ok (.slice A6 n7 n8) w3 ∧ (Go.Sx.Fr (fun _ => False) w w3 ∧ Go.Sx.Mild [g5] w2 w3) ∧ 
  (
  Calls Try.prog 16 #[(.slice A0 n1 n2)] w3 fun r w4 => ∃ i9 : Int, r = .returned (.int .u32 i9) ∧ (Go.Sx.Fr (fun _ => False) w w4 ∧ Go.Sx.Mild [g5] w3 w4) ∧ 
  ((b3 = true →
  ∀ g10 : Nat, w.heap.size ≤ g10 → (∀ w5 : World, Go.Sx.Fr (fun _ => False) w w5 → Below w4.heap.size w4 w5 → w4.heap.size ≤ g10 → w5.heap[g10]? = some (.cells #[.int .u8 (IntKind.u8.wrap i9), .int .u8 (IntKind.u8.wrap (Int.fdiv i9 (2 ^ 8))), .int .u8 (IntKind.u8.wrap (Int.fdiv i9 (2 ^ 16))), .int .u8 (IntKind.u8.wrap (Int.fdiv i9 (2 ^ 24)))] 5 (0, 0)) → 
   ∃ w6 : World, ∃ A11 : Option Addr, ∃ n12 : Nat, ∃ n13 : Nat, (Builtin.append_ #[22, 22] 22 #[(.slice A6 n7 n8), (.slice (some ⟨g10, 0, none⟩) 4 4)]).run Try.prog w5 = .ok (.slice A11 n12 n13) w6 ∧ (Go.Sx.Fr (fun _ => False) w w6 ∧ Go.Sx.Mild [g10, g5] w5 w6) ∧ 
   ∀ g14 : Nat, w.heap.size ≤ g14 → (∀ w7 : World, Go.Sx.Fr (fun _ => False) w w7 → Below w6.heap.size w6 w7 → w6.heap.size ≤ g14 → w7.heap[g14]? = some (.cells #[] 5 (0, 0)) → 
   ∃ w8 : World, ∃ A15 : Option Addr, ∃ n16 : Nat, ∃ n17 : Nat, (Builtin.append_ #[22, 22] 22 #[(.slice (some ⟨g14, 0, none⟩) 0 0), (.slice A11 n12 n13)]).run Try.prog w7 = .ok (.slice A15 n16 n17) w8 ∧ (Go.Sx.Fr (fun _ => False) w w8 ∧ Go.Sx.Mild [g14, g10, g5] w7 w8) ∧ 
   (
   Calls Try.prog 18 #[(.slice A15 n16 n17)] w8 fun r w9 => ∃ i18 : Int, ∃ i19 : Int, ∃ i20 : Int, ∃ i21 : Int, ∃ i22 : Int, ∃ i23 : Int, ∃ A24 : Option Addr, ∃ n25 : Nat, ∃ n26 : Nat, ∃ i27 : Int, r = .returned (.tuple #[.agg #[.int .i64 i18, .int .i64 i19, .int .i64 i20, .int .i64 i21, .int .i64 i22, .int .i64 i23, .slice A24 n25 n26], .int .i64 i27]) ∧ (Go.Sx.Fr (fun _ => False) w w9 ∧ Go.Sx.Mild [g14, g10, g5] w8 w9) ∧ 
   ∀ g28 : Nat, w.heap.size ≤ g28 → (∀ w10 : World, Go.Sx.Fr (fun _ => False) w w10 → Below w9.heap.size w9 w10 → w9.heap.size ≤ g28 → w10.heap[g28]? = some (.cells #[.int .i64 i18, .int .i64 i19, .int .i64 i20, .int .i64 i21, .int .i64 i22, .int .i64 i23, .slice A24 n25 n26] 24 (0, 0)) → 
   Calls Try.prog 19 #[(.slice A11 n12 n13)] w10 fun r w11 => ∃ i29 : Int, ∃ i30 : Int, ∃ i31 : Int, ∃ i32 : Int, ∃ i33 : Int, ∃ i34 : Int, ∃ A35 : Option Addr, ∃ n36 : Nat, ∃ n37 : Nat, ∃ i38 : Int, r = .returned (.tuple #[.agg #[.int .i64 i29, .int .i64 i30, .int .i64 i31, .int .i64 i32, .int .i64 i33, .int .i64 i34, .slice A35 n36 n37], .int .i64 i38]) ∧ (Go.Sx.Fr (fun _ => False) w w11 ∧ Go.Sx.Mild [g28, g14, g10, g5] w10 w11) ∧ 
   ∀ g39 : Nat, w.heap.size ≤ g39 → (∀ w12 : World, Go.Sx.Fr (fun _ => False) w w12 → Below w11.heap.size w11 w12 → w11.heap.size ≤ g39 → w12.heap[g39]? = some (.cells #[.int .i64 i29, .int .i64 i30, .int .i64 i31, .int .i64 i32, .int .i64 i33, .int .i64 i34, .slice A35 n36 n37] 24 (0, 0)) → 
   Calls Try.prog 17 #[(.agg #[.int .i64 i18, .int .i64 i19, .int .i64 i20, .int .i64 i21, .int .i64 i22, .int .i64 i23, .slice A24 n25 n26]), (.agg #[.int .i64 i29, .int .i64 i30, .int .i64 i31, .int .i64 i32, .int .i64 i33, .int .i64 i34, .slice A35 n36 n37])] w12 fun r w13 => ∃ b40 : Bool, r = .returned (.bool b40) ∧ (Go.Sx.Fr (fun _ => False) w w13 ∧ Go.Sx.Mild [g39, g28, g14, g10, g5] w12 w13) ∧ 
   ((true = true →
   ((b40 = true →
    ((Ret (.bool true) w) (.returned (.bool (i27 == i38))) w13)) ∧
    (b40 = false →
    ((Ret (.bool true) w) (.returned (.bool false)) w13)))) ∧
   (true = false →
   ((Ret (.bool true) w) (.returned (.bool false)) w13))))))))) ∧
  (b3 = false →
  ∀ g10 : Nat, w.heap.size ≤ g10 → (∀ w5 : World, Go.Sx.Fr (fun _ => False) w w5 → Below w4.heap.size w4 w5 → w4.heap.size ≤ g10 → w5.heap[g10]? = some (.cells #[] 5 (0, 0)) → 
   ∃ w6 : World, ∃ A11 : Option Addr, ∃ n12 : Nat, ∃ n13 : Nat, (Builtin.append_ #[22, 22] 22 #[(.slice (some ⟨g10, 0, none⟩) 0 0), (.slice A6 n7 n8)]).run Try.prog w5 = .ok (.slice A11 n12 n13) w6 ∧ (Go.Sx.Fr (fun _ => False) w w6 ∧ Go.Sx.Mild [g10, g5] w5 w6) ∧ 
   (
   Calls Try.prog 18 #[(.slice A11 n12 n13)] w6 fun r w7 => ∃ i14 : Int, ∃ i15 : Int, ∃ i16 : Int, ∃ i17 : Int, ∃ i18 : Int, ∃ i19 : Int, ∃ A20 : Option Addr, ∃ n21 : Nat, ∃ n22 : Nat, ∃ i23 : Int, r = .returned (.tuple #[.agg #[.int .i64 i14, .int .i64 i15, .int .i64 i16, .int .i64 i17, .int .i64 i18, .int .i64 i19, .slice A20 n21 n22], .int .i64 i23]) ∧ (Go.Sx.Fr (fun _ => False) w w7 ∧ Go.Sx.Mild [g10, g5] w6 w7) ∧ 
   ∀ g24 : Nat, w.heap.size ≤ g24 → (∀ w8 : World, Go.Sx.Fr (fun _ => False) w w8 → Below w7.heap.size w7 w8 → w7.heap.size ≤ g24 → w8.heap[g24]? = some (.cells #[.int .i64 i14, .int .i64 i15, .int .i64 i16, .int .i64 i17, .int .i64 i18, .int .i64 i19, .slice A20 n21 n22] 24 (0, 0)) → 
   Calls Try.prog 19 #[(.slice A6 n7 n8)] w8 fun r w9 => ∃ i25 : Int, ∃ i26 : Int, ∃ i27 : Int, ∃ i28 : Int, ∃ i29 : Int, ∃ i30 : Int, ∃ A31 : Option Addr, ∃ n32 : Nat, ∃ n33 : Nat, ∃ i34 : Int, r = .returned (.tuple #[.agg #[.int .i64 i25, .int .i64 i26, .int .i64 i27, .int .i64 i28, .int .i64 i29, .int .i64 i30, .slice A31 n32 n33], .int .i64 i34]) ∧ (Go.Sx.Fr (fun _ => False) w w9 ∧ Go.Sx.Mild [g24, g10, g5] w8 w9) ∧ 
   ∀ g35 : Nat, w.heap.size ≤ g35 → (∀ w10 : World, Go.Sx.Fr (fun _ => False) w w10 → Below w9.heap.size w9 w10 → w9.heap.size ≤ g35 → w10.heap[g35]? = some (.cells #[.int .i64 i25, .int .i64 i26, .int .i64 i27, .int .i64 i28, .int .i64 i29, .int .i64 i30, .slice A31 n32 n33] 24 (0, 0)) → 
   Calls Try.prog 17 #[(.agg #[.int .i64 i14, .int .i64 i15, .int .i64 i16, .int .i64 i17, .int .i64 i18, .int .i64 i19, .slice A20 n21 n22]), (.agg #[.int .i64 i25, .int .i64 i26, .int .i64 i27, .int .i64 i28, .int .i64 i29, .int .i64 i30, .slice A31 n32 n33])] w10 fun r w11 => ∃ b36 : Bool, r = .returned (.bool b36) ∧ (Go.Sx.Fr (fun _ => False) w w11 ∧ Go.Sx.Mild [g35, g24, g10, g5] w10 w11) ∧ 
   ((true = true →
   ((b36 = true →
    ((Ret (.bool true) w) (.returned (.bool (i23 == i34))) w11)) ∧
    (b36 = false →
    ((Ret (.bool true) w) (.returned (.bool false)) w11)))) ∧
   (true = false →
   ((Ret (.bool true) w) (.returned (.bool false)) w11)))))))))))
  := by
  have hn := h.len_eq
  intro g5 hg5 w2 f2 b2 lo5 t5
  have r2 : Rw none w w.heap.size 5 w2 (.slice (some ⟨g5, 0, none⟩) 0 0) ([] : List UInt8) [g5] :=
    ⟨OwnF.bytes [] 0 rfl hg5 t5 (by decide), none_fr f2, fun k hk => (by rw [tail_full] at hk; cases hk), fun g hg => (by simp at hg; subst hg; exact heap_lt t5), Nat.le_refl _⟩
  obtain ⟨w3, A6, n7, n8, hr3, m3, r3⟩ := r2.append 22 22 (.int .u8 0) 1 Try.underlying22 (by kernel_rfl) rfl (h.below b2).arg (by simp; omega) (by simp; omega)
  have f3 := fr_none m3.1
  refine ⟨w3, A6, n7, n8, hr3, ⟨f3, m3.2⟩, ?_⟩
  have h3 : Sl w3 (fun b => b < w.heap.size) (.slice A0 n1 n2) xs := Sl.same h f1 f3
  refine (refSum_c h3).mono ?_
  rintro e w4 ⟨rfl, b4⟩
  have f4 := f3.step b4
  refine ⟨_, rfl, ok_ret b4 f3, ?_⟩
  have r4 := r3.below b4
  refine ⟨fun hb => ?_, fun hb => ?_⟩
  · intro g10 hg10 w5 f5 b5 lo10 t10
    have t10' : w5.heap[g10]? = some (.cells ((sumB xs).map fun b => Value.int .u8 (b.toNat : Int)).toArray 5 (0, 0)) := by
      rw [t10]
      simp only [u8_wrap]
      have : ∀ x : Int, x.fdiv (2 ^ 0) = x := fun x => by show x.fdiv 1 = x; simp
      simp [sumB, fourV, this]
    obtain ⟨w6, A11, n12, n13, hr6, m6, r6⟩ := (r4.on b5 [g10] (by simp only [List.mem_singleton]; rintro _ rfl; exact ⟨lo10, heap_lt t10⟩)).append 22 22 (.int .u8 0) 1 Try.underlying22 (by kernel_rfl) rfl
      (arg_bytes (sumB xs) 4 rfl (by decide) t10') (by simp [sumB, fourV]; omega) (by simp [sumB, fourV]; omega)
    refine ⟨w6, A11, n12, n13, hr6, ⟨fr_none m6.1, m6.2⟩, ?_⟩
    have lx : ([] ++ xs ++ sumB xs).length ≤ 1004 := by simp [sumB, fourV]; omega
    -- Take of a copy, the reference's of the bytes themselves, both the same
    have rr := r6
    have ff : Fr (fun _ => False) w w6 := fr_none rr.fr
    have ll := (rr.own.to (ok := fun _ => True) fun _ _ => trivial).len_eq
    intro gx hgx wa fa ba lox tx
    have ra := rr.on ba [gx] (by simp only [List.mem_singleton]; rintro _ rfl; exact ⟨lox, heap_lt tx⟩)
    obtain ⟨wb, Ab, nb, cb, hrb, sb, bb⟩ := app0 (g := gx) (ra.own.to (ok := fun _ => True) fun _ _ => trivial) (by omega)
    have fb := fa.step bb
    refine ⟨wb, Ab, nb, cb, hrb, ok_below fa bb, ?_⟩
    refine (take_c (Sl.here sb) (by have := sb.len; omega)).mono ?_
    rintro e wc ⟨Ac, nc, cc, rfl, sc, bc⟩
    have fc := fb.step bc
    refine ⟨_, _, _, _, _, _, Ac, nc, cc, _, rfl, ok_ret bc fb, ?_⟩
    intro gy hgy wd fd bd' loy ty
    have rd := ((ra.below bb).below bc).below bd'
    refine (refTake_c (Sl.here (rd.own.to (ok := fun _ => True) fun _ _ => trivial)) (by omega)).mono ?_
    rintro e we ⟨Ae, ne, ce, rfl, se, be⟩
    have fe := fd.step be
    refine ⟨_, _, _, _, _, _, Ae, ne, ce, _, rfl, ok_ret be fd, ?_⟩
    intro gz hgz wf ff' bf loz tz
    refine (taken_same (((sc.below bd').below be).below bf) (se.below bf)).mono ?_
    rintro e wg ⟨rfl, bg⟩
    refine ⟨_, rfl, ok_ret bg ff', ?_⟩
    refine ⟨fun _ => ⟨fun _ => ret_leaf (ff'.step bg) (by simp), fun h => by cases h⟩, fun h => by cases h⟩
  · have lx : ([] ++ xs).length ≤ 1004 := by simp; omega
    -- Take of a copy, the reference's of the bytes themselves, both the same
    have rr := r4
    have ff : Fr (fun _ => False) w w4 := fr_none rr.fr
    have ll := (rr.own.to (ok := fun _ => True) fun _ _ => trivial).len_eq
    intro gx hgx wa fa ba lox tx
    have ra := rr.on ba [gx] (by simp only [List.mem_singleton]; rintro _ rfl; exact ⟨lox, heap_lt tx⟩)
    obtain ⟨wb, Ab, nb, cb, hrb, sb, bb⟩ := app0 (g := gx) (ra.own.to (ok := fun _ => True) fun _ _ => trivial) (by omega)
    have fb := fa.step bb
    refine ⟨wb, Ab, nb, cb, hrb, ok_below fa bb, ?_⟩
    refine (take_c (Sl.here sb) (by have := sb.len; omega)).mono ?_
    rintro e wc ⟨Ac, nc, cc, rfl, sc, bc⟩
    have fc := fb.step bc
    refine ⟨_, _, _, _, _, _, Ac, nc, cc, _, rfl, ok_ret bc fb, ?_⟩
    intro gy hgy wd fd bd' loy ty
    have rd := ((ra.below bb).below bc).below bd'
    refine (refTake_c (Sl.here (rd.own.to (ok := fun _ => True) fun _ _ => trivial)) (by omega)).mono ?_
    rintro e we ⟨Ae, ne, ce, rfl, se, be⟩
    have fe := fd.step be
    refine ⟨_, _, _, _, _, _, Ae, ne, ce, _, rfl, ok_ret be fd, ?_⟩
    intro gz hgz wf ff' bf loz tz
    refine (taken_same (((sc.below bd').below be).below bf) (se.below bf)).mono ?_
    rintro e wg ⟨rfl, bg⟩
    refine ⟨_, rfl, ok_ret bg ff', ?_⟩
    refine ⟨fun _ => ⟨fun _ => ret_leaf (ff'.step bg) (by simp), fun h => by cases h⟩, fun h => by cases h⟩
set_option maxHeartbeats 4000000 in
theorem frameTakes_wk {w : World} {A : Option Addr} {n c : Nat} {xs : List UInt8} {b : Bool} (h : Sl w (fun b => b < w.heap.size) (.slice A n c) xs) :
    Calls Try.prog 6 #[.slice A n c, .bool b] w (Ret (.bool true) w) := by
  have hn := h.len_eq
  refine frameTakes_sx _ (fun _ => False) w A n c b ?_
  refine (shown_c w).mono ?_
  rintro e w1 ⟨rfl, b1⟩
  have f1 := (Fr.refl (fun _ => False) w).step b1
  refine ⟨_, rfl, ok_ret b1 (Fr.refl _ _), fun hlt => ?_, fun hle => frameTakes_rest f1 (h.below b1) (by omega)⟩
  have hs1 := run_slice_hi (P := Try.prog) (w := w1) 22 5 _ Try.underlying22 rfl A n c 1000 (by omega)
  rw [if_neg (by omega)] at hs1
  obtain ⟨p, o, rfl, _⟩ := h.at_ (by omega)
  rw [show (some ⟨p, o, none⟩ : Option Addr).map (·.add 0) = some ⟨p, o, none⟩ by simp [add_plain]] at hs1
  refine ⟨_, 1000, c, hs1, ?_⟩
  have s1 : Sl w1 (fun b => b < w.heap.size) (.slice (some ⟨p, o, none⟩) 1000 c) (xs.take 1000) := (h.below b1).take 1000 c (by omega) (by omega) (by omega)
  exact frameTakes_rest f1 s1 (by omega)
theorem rd_bytesT : Rd Try.prog 22 (List UInt8) := rd_slice Try.underlying22 (by kernel_rfl) (rd_byte Try.underlying5)
theorem frameTakes_walk (w : World) (A : Option Addr) (n c : Nat) (xs : List UInt8) (h : Sl w (fun b => b < w.heap.size) (.slice A n c) xs) (b : Bool) :
    Calls Try.prog 6 #[.slice A n c, .bool b] w fun e w' => e = .returned (.bool true) ∧ Below w.heap.size w w' := frameTakes_wk h
end Go.Proofs.Ytolipmnmaikfcaa
