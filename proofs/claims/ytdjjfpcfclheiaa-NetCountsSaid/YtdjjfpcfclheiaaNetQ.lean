/- Net: the law NetCounts. -/
import Derived.Test.YtdjjfpcfclheiaaNetH
import Derived.Test.YtdjjfpcfclheiaaNetN
set_option linter.unusedSimpArgs false
set_option linter.unusedVariables false
namespace Go.Proofs.Ytdjjfpcfclheiaa
open Go Go.RowKit Go.Proofs Go.Trc Go.Sx
/-- What is told of the numbers: none is more than B, and they agree with what is on its way. -/
def Cons (B : Nat) (s : NS) : Prop := ∃ a b c d e f : Int, s.2 = [a, b, c, d, e, f] ∧ (0 ≤ a ∧ a ≤ B) ∧ (0 ≤ b ∧ b ≤ B) ∧ (0 ≤ c ∧ c ≤ B) ∧ (0 ≤ d ∧ d ≤ B) ∧ (0 ≤ e ∧ e ≤ B) ∧ (0 ≤ f ∧ f ≤ B) ∧ a + f = s.1.length + c + d + e
theorem Cons.more {B B' : Nat} {s : NS} (h : Cons B s) (hB : B ≤ B') : Cons B' s := by
  obtain ⟨a, b, c, d, e, f, h0, h1, h2, h3, h4, h5, h6, h7⟩ := h
  exact ⟨a, b, c, d, e, f, h0, by omega, by omega, by omega, by omega, by omega, by omega, h7⟩
theorem tick6 (ts : List Int) (h6 : ts.length = 6) (k : Nat) (hk : k < 6) (h : 0 ≤ getV ts k ∧ getV ts k ≤ 1000000) : addV ts (k : Int) 1 = ts.set k (getV ts (k : Int) + 1) := by
  have e : addE ts (k : Int) 1 = 0 := by
    unfold addE
    rw [if_neg (by omega), if_neg (by unfold big; omega)]
  unfold addV
  rw [if_pos e, Int.toNat_natCast]
theorem t6_0 {a b c d e f : Int} (h : 0 ≤ a ∧ a ≤ 1000000) : addV [a, b, c, d, e, f] 0 1 = [a + 1, b, c, d, e, f] := tick6 [a, b, c, d, e, f] rfl 0 (by decide) h
theorem t6_1 {a b c d e f : Int} (h : 0 ≤ b ∧ b ≤ 1000000) : addV [a, b, c, d, e, f] 1 1 = [a, b + 1, c, d, e, f] := tick6 [a, b, c, d, e, f] rfl 1 (by decide) h
theorem t6_2 {a b c d e f : Int} (h : 0 ≤ c ∧ c ≤ 1000000) : addV [a, b, c, d, e, f] 2 1 = [a, b, c + 1, d, e, f] := tick6 [a, b, c, d, e, f] rfl 2 (by decide) h
theorem t6_3 {a b c d e f : Int} (h : 0 ≤ d ∧ d ≤ 1000000) : addV [a, b, c, d, e, f] 3 1 = [a, b, c, d + 1, e, f] := tick6 [a, b, c, d, e, f] rfl 3 (by decide) h
theorem t6_4 {a b c d e f : Int} (h : 0 ≤ e ∧ e ≤ 1000000) : addV [a, b, c, d, e, f] 4 1 = [a, b, c, d, e + 1, f] := tick6 [a, b, c, d, e, f] rfl 4 (by decide) h
theorem t6_5 {a b c d e f : Int} (h : 0 ≤ f ∧ f ≤ 1000000) : addV [a, b, c, d, e, f] 5 1 = [a, b, c, d, e, f + 1] := tick6 [a, b, c, d, e, f] rfl 5 (by decide) h
theorem gone_one {xss : List (List UInt8)} {i : Int} (h : inV xss i = true) : (goneV xss i).length + 1 = xss.length := by
  obtain ⟨k, rfl, hk⟩ := in_nat h
  unfold goneV
  simp
  omega
theorem cons_deliver {B : Nat} {s : NS} (h : Cons B s) (hB : B < 1000000) (i : Int) : Cons (B + 6) (deliverV s i) := by
  by_cases h1 : (atV s.1 i).2 = 1
  · have : deliverV s i = s := by unfold deliverV; rw [if_pos h1]
    rw [this]; exact h.more (by omega)
  have hin : inV s.1 i = true := by
    cases hb : inV s.1 i with
    | true => rfl
    | false => exact absurd ((at_code s.1 i).2 hb) h1
  have hg := gone_one hin
  obtain ⟨a, b, c, d, e, f, h0, r1, r2, r3, r4, r5, r6, r7⟩ := h
  by_cases h2 : (atV s.1 i).2 = 2
  · have : deliverV s i = (goneV s.1 i, [a, b, c, d + 1, e, f]) := by unfold deliverV; rw [if_neg h1, if_pos h2, h0, t6_3 (by omega)]
    rw [this]
    exact ⟨a, b, c, d + 1, e, f, rfl, by omega, by omega, by omega, by omega, by omega, by omega, by show a + f = ((goneV s.1 i).length : Int) + c + (d + 1) + e; omega⟩
  · have : deliverV s i = (goneV s.1 i, [a, b, c + 1, d, e, f]) := by unfold deliverV; rw [if_neg h1, if_neg h2, h0, t6_2 (by omega)]
    rw [this]
    exact ⟨a, b, c + 1, d, e, f, rfl, by omega, by omega, by omega, by omega, by omega, by omega, by show a + f = ((goneV s.1 i).length : Int) + (c + 1) + d + e; omega⟩
theorem cons_drop {B : Nat} {s : NS} (h : Cons B s) (hB : B < 1000000) (i : Int) : Cons (B + 6) (dropV s i) := by
  by_cases hin : inV s.1 i = true
  · have hg := gone_one hin
    obtain ⟨a, b, c, d, e, f, h0, r1, r2, r3, r4, r5, r6, r7⟩ := h
    have : dropV s i = (goneV s.1 i, [a, b, c, d, e + 1, f]) := by unfold dropV; rw [if_pos hin, h0, t6_4 (by omega)]
    rw [this]
    exact ⟨a, b, c, d, e + 1, f, rfl, by omega, by omega, by omega, by omega, by omega, by omega, by show a + f = ((goneV s.1 i).length : Int) + c + d + (e + 1); omega⟩
  · have : dropV s i = s := by unfold dropV; rw [if_neg hin]
    rw [this]; exact h.more (by omega)
theorem cons_double {B : Nat} {s : NS} (h : Cons B s) (hB : B < 1000000) (i : Int) : Cons (B + 6) (doubleV s i) := by
  by_cases hE : doubleE s i = 0
  · obtain ⟨a, b, c, d, e, f, h0, r1, r2, r3, r4, r5, r6, r7⟩ := h
    have : doubleV s i = (s.1 ++ [s.1.getD i.toNat []], [a, b, c, d, e, f + 1]) := by unfold doubleV; rw [if_pos hE, h0, t6_5 (by omega)]
    rw [this]
    exact ⟨a, b, c, d, e, f + 1, rfl, by omega, by omega, by omega, by omega, by omega, by omega, by show a + (f + 1) = ((s.1 ++ [s.1.getD i.toNat []]).length : Int) + c + d + e; simp; omega⟩
  · have : doubleV s i = s := by unfold doubleV; rw [if_neg hE]
    rw [this]; exact h.more (by omega)
theorem cons_turn {B : Nat} {s : NS} (h : Cons B s) (i k : Int) : Cons (B + 6) (turnV s i k) := by
  by_cases hE : turnE s i k = 0
  · have : turnV s i k = (s.1.set i.toNat (turnB (s.1.getD i.toNat []) k.toNat), s.2) := by unfold turnV; rw [if_pos hE]
    rw [this]
    obtain ⟨a, b, c, d, e, f, h0, r1, r2, r3, r4, r5, r6, r7⟩ := h
    exact ⟨a, b, c, d, e, f, h0, by omega, by omega, by omega, by omega, by omega, by omega, by show a + f = ((s.1.set i.toNat _).length : Int) + c + d + e; rw [List.length_set]; exact r7⟩
  · have : turnV s i k = s := by unfold turnV; rw [if_neg hE]
    rw [this]; exact h.more (by omega)
theorem cons_one {B : Nat} {s : NS × Int} (h : Cons B s.1) (hB : B < 1000000) (f : FV) : Cons (B + 1) (sendF s f).1 := by
  unfold sendF
  by_cases h0 : mayV f = 0
  · rw [if_pos h0]
    obtain ⟨a, b, c, d, e, f', h0', r1, r2, r3, r4, r5, r6, r7⟩ := h
    by_cases h4 : 4096 ≤ s.1.1.length
    · rw [if_pos h4]
      refine ⟨a, b + 1, c, d, e, f', ?_, by omega, by omega, by omega, by omega, by omega, by omega, r7⟩
      show addV s.1.2 1 1 = _
      rw [h0', t6_1 (by omega)]
    · rw [if_neg h4]
      refine ⟨a + 1, b, c, d, e, f', ?_, by omega, by omega, by omega, by omega, by omega, by omega, ?_⟩
      · show addV s.1.2 0 1 = _
        rw [h0', t6_0 (by omega)]
      · show a + 1 + f' = ((s.1.1 ++ [putW f]).length : Int) + c + d + e
        simp; omega
  · rw [if_neg h0]; exact h.more (by omega)
theorem cons_fold : ∀ (fs : List FV) {B : Nat} {s : NS × Int}, Cons B s.1 → B + fs.length ≤ 1000000 → Cons (B + fs.length) (fs.foldl sendF s).1
  | [], B, s, h, _ => h
  | f :: fs, B, s, h, hB => by
    simp only [List.length_cons] at hB
    have := cons_fold fs (cons_one h (by omega) f) (by omega)
    rw [List.foldl_cons]
    simp only [List.length_cons]
    rw [show B + (fs.length + 1) = B + 1 + fs.length by omega]
    exact this
theorem few_len (fs : List FV) : (fewV fs).length ≤ 6 := by unfold fewV; simp; omega
theorem cons_send {B : Nat} {s : NS} (h : Cons B s) (hB : B + 6 ≤ 1000000) (fs : List FV) : Cons (B + 6) (sendV s (fewV fs)).1 := by
  have hl := few_len fs
  exact (cons_fold (fewV fs) (s := (s, 0)) h (by omega)).more (by omega)
def NCI (w : World) (n gn : Nat) (b6 : Bool) (i7 : Int) (w' : World) : Prop :=
  ∃ (k : Nat) (s : NS) (F : List Nat), i7 = k ∧ k ≤ n ∧ k ≤ 80 ∧ Net w' gn s.1 s.2 F ∧ Cons (6 * k) s ∧ (∀ b ∈ F, w.heap.size ≤ b)
def NCM (n : Nat) (b6 : Bool) (i7 : Int) (w' : World) : Nat := (n - i7 : Int).toNat
theorem cells_nth {w : World} {b o i : Nat} {cs : List Value} {v : Value} (h : CellsAt w b (o + 0) cs) (hv : nth cs i = some v) : CellsAt w b (o + i) [v] := cells_one (h i v hv)
set_option maxHeartbeats 4000000 in
theorem counts_tail {w w3 w4 : World} {n1 k gn : Nat} {s : NS} {F : List Nat} {b6 : Bool} (f4 : Fr (fun _ => False) w w4) (hn : Net w4 gn s.1 s.2 F) (hc : Cons (6 * (k + 1)) s) (ge : ∀ b ∈ F, w.heap.size ≤ b) (hk : k < n1) (hk80 : k < 80) (hmax : (n1 : Int) ≤ 9223372036854775807) :
Calls Try.prog 36 #[((Value.pointer (some ⟨gn, 0, none⟩)))] w4 fun r w5 => ∃ A24 : Option Addr, ∃ n25 : Nat, ∃ n26 : Nat, r = .returned (.slice A24 n25 n26) ∧ (Go.Sx.Fr (fun _ => False) w w5 ∧ Go.Sx.Mild [] w4 w5) ∧ 
       (∃ T27 : List Nat, (∀ b ∈ T27, b < w5.heap.size ∧ b ∉ []) ∧
       ((¬ (n25 : Int) = (6 : Int) →
       (∀ w6 : World, Go.Sx.Fr (fun _ => False) w w6 → Below w5.heap.size w5 w6 → (Ret (Value.bool true) w) (.returned (.bool false)) w6)) ∧
       ((n25 : Int) = (6 : Int) →
       ((0 : Int) ≤ (0 : Int) ∧ (0 : Int) < (n25 : Int) ∧ ∃ p28 : Nat, ∃ o29 : Nat, A24 = some ⟨p28, o29, none⟩ ∧
        (∀ w6 : World, Go.Sx.Fr (fun _ => False) w w6 → Below w5.heap.size w5 w6 → ∃ i30 : Int, Go.Sx.CellsAt w6 p28 (o29 + ((0 : Int)).toNat * 1 + 0) [.int .i64 i30] ∧ (p28 < w5.heap.size ∧ p28 ∉ (T27 ++ [])) ∧ 
        ((0 : Int) ≤ (5 : Int) ∧ (5 : Int) < (n25 : Int) ∧ ∃ p31 : Nat, ∃ o32 : Nat, A24 = some ⟨p31, o32, none⟩ ∧
        (∃ i33 : Int, Go.Sx.CellsAt w6 p31 (o32 + ((5 : Int)).toNat * 1 + 0) [.int .i64 i33] ∧ (p31 < w5.heap.size ∧ p31 ∉ (T27 ++ [])) ∧ 
        ((0 : Int) ≤ (2 : Int) ∧ (2 : Int) < (n25 : Int) ∧ ∃ p34 : Nat, ∃ o35 : Nat, A24 = some ⟨p34, o35, none⟩ ∧
        (∃ i36 : Int, Go.Sx.CellsAt w6 p34 (o35 + ((2 : Int)).toNat * 1 + 0) [.int .i64 i36] ∧ (p34 < w5.heap.size ∧ p34 ∉ (T27 ++ [])) ∧ 
        ((0 : Int) ≤ (3 : Int) ∧ (3 : Int) < (n25 : Int) ∧ ∃ p37 : Nat, ∃ o38 : Nat, A24 = some ⟨p37, o38, none⟩ ∧
        (∃ i39 : Int, Go.Sx.CellsAt w6 p37 (o38 + ((3 : Int)).toNat * 1 + 0) [.int .i64 i39] ∧ (p37 < w5.heap.size ∧ p37 ∉ (T27 ++ [])) ∧ 
        ((0 : Int) ≤ (4 : Int) ∧ (4 : Int) < (n25 : Int) ∧ ∃ p40 : Nat, ∃ o41 : Nat, A24 = some ⟨p40, o41, none⟩ ∧
        (∃ i42 : Int, Go.Sx.CellsAt w6 p40 (o41 + ((4 : Int)).toNat * 1 + 0) [.int .i64 i42] ∧ (p40 < w5.heap.size ∧ p40 ∉ (T27 ++ [])) ∧ 
        (
        Calls Try.prog 29 #[((Value.pointer (some ⟨gn, 0, none⟩)))] w6 fun r w7 => ∃ i43 : Int, r = .returned (.int .i64 i43) ∧ (Go.Sx.Fr (fun _ => False) w w7 ∧ Go.Sx.Mild [] w6 w7) ∧ Go.Sx.Keep w5.heap.size (T27 ++ []) w6 w7 ∧ 
        ((¬ (IntKind.i64.wrap (i30 + i33)) = (IntKind.i64.wrap ((IntKind.i64.wrap ((IntKind.i64.wrap (i43 + i36)) + i39)) + i42)) →
        ((Ret (Value.bool true) w) (.returned (.bool false)) w7)) ∧
        ((IntKind.i64.wrap (i30 + i33)) = (IntKind.i64.wrap ((IntKind.i64.wrap ((IntKind.i64.wrap (i43 + i36)) + i39)) + i42)) →
        (
         Calls Try.prog 29 #[((Value.pointer (some ⟨gn, 0, none⟩)))] w7 fun r w8 => ∃ i44 : Int, r = .returned (.int .i64 i44) ∧ (Go.Sx.Fr (fun _ => False) w w8 ∧ Go.Sx.Mild [] w7 w8) ∧ 
         (((4096 : Int) < i44 →
         ((Ret (Value.bool true) w) (.returned (.bool false)) w8)) ∧
         (i44 ≤ (4096 : Int) →
         (
          Calls Try.prog 29 #[((Value.pointer (some ⟨gn, 0, none⟩)))] w8 fun r w9 => ∃ i45 : Int, r = .returned (.int .i64 i45) ∧ (Go.Sx.Fr (fun _ => False) w w9 ∧ Go.Sx.Mild [] w8 w9) ∧ 
          ((i45 < (0 : Int) →
          ((Ret (Value.bool true) w) (.returned (.bool false)) w9)) ∧
          ((0 : Int) ≤ i45 →
          (NCI w n1 gn b6 (IntKind.i64.wrap ((k : Int) + (1 : Int))) w9 ∧ NCM n1 b6 (IntKind.i64.wrap ((k : Int) + (1 : Int))) w9 < NCM n1 b6 (k : Int) w3)))))))))))))))))))))))
  := by
  obtain ⟨a, b, c, d, e, f, h0, r1, r2, r3, r4, r5, r6, r7⟩ := id hc
  have hlen := hn.len
  refine (nTally hn).mono ?_
  rintro _ w5 ⟨F5, A, m, cc, n5, u5, o5, rfl⟩
  have f5 := up_fr f4 u5 ge
  have ge5 := up_ge u5 ge f4.size
  rw [h0] at o5
  have hm := o5.sl.len
  simp only [List.length_cons, List.length_nil] at hm
  obtain ⟨gt, rfl, gt1, gt2, -⟩ := own_some o5 (by simp)
  refine ⟨_, m, cc, rfl, ⟨f5, mild_nil u5.fr.size⟩, [], (fun b hb => by cases hb), fun hne => absurd (by omega) hne, fun _ => ⟨by omega, by omega, gt, 0, rfl, fun w6 f6 b6' => ?_⟩⟩
  have s6 := (o5.below b6').sl
  refine ⟨_, s6.at_k 0 (by simp), ⟨gt2, by simp⟩, by omega, by omega, gt, 0, rfl, _, s6.at_k 5 (by simp), ⟨gt2, by simp⟩, by omega, by omega, gt, 0, rfl, _, s6.at_k 2 (by simp), ⟨gt2, by simp⟩, by omega, by omega, gt, 0, rfl, _, s6.at_k 3 (by simp), ⟨gt2, by simp⟩, by omega, by omega, gt, 0, rfl, _, s6.at_k 4 (by simp), ⟨gt2, by simp⟩, ?_⟩
  have n6 := n5.below b6'
  refine (nLen n6).mono ?_
  rintro _ w7 ⟨rfl, b7⟩
  have f7 := f6.step b7
  have n7 := n6.below b7
  refine ⟨_, rfl, ok_ret b7 f6, keep_below b7 b6'.size, fun hne => absurd ?_ hne, fun _ => ?_⟩
  · show IntKind.i64.wrap (a + f) = IntKind.i64.wrap (IntKind.i64.wrap (IntKind.i64.wrap ((s.1.length : Int) + c) + d) + e)
    rw [wrap_in (x := a + f) (by omega), wrap_in (x := (s.1.length : Int) + c) (by omega), wrap_in (x := (s.1.length : Int) + c + d) (by omega), wrap_in (x := (s.1.length : Int) + c + d + e) (by omega)]
    omega
  refine (nLen n7).mono ?_
  rintro _ w8 ⟨rfl, b8⟩
  have f8 := f7.step b8
  have n8 := n7.below b8
  refine ⟨_, rfl, ok_ret b8 f7, fun h => by omega, fun _ => ?_⟩
  refine (nLen n8).mono ?_
  rintro _ w9 ⟨rfl, b9⟩
  refine ⟨_, rfl, ok_ret b9 f8, fun h => by omega, fun _ => ⟨⟨k + 1, s, F5, by rw [wrap_in (by omega)]; rfl, hk, hk80, n8.below b9, hc, ge5⟩, ?_⟩⟩
  unfold NCM
  rw [wrap_in (by omega)]
  omega
set_option maxHeartbeats 8000000 in
theorem netCounts_walk (w : World) (A : Option Addr) (n c : Nat) (xs : List OpT) (h : Sl w (fun b => b < w.heap.size) (.slice A n c) xs) :
    Calls Try.prog 9 #[.slice A n c] w fun e w' => e = .returned (.bool true) ∧ Below w.heap.size w w' := by
  have hlen := h.len_eq
  refine netCounts_sx (Ret (.bool true) w) (fun _ => False) w A n c ?_
  refine (netShown_c w).mono ?_
  rintro e w1 ⟨rfl, b1⟩
  have f1 := (Fr.refl (fun _ => False) w).step b1
  refine ⟨_, rfl, ok_ret b1 (Fr.refl _ _), ?_⟩
  refine (netNew_c w1).mono ?_
  rintro e w2 ⟨gn, F, n2, ge2, b2, rfl⟩
  have f2 := f1.step b2
  refine ⟨_, rfl, ok_ret b2 f1, (fun h => by cases h), fun _ => ⟨_, eql_net w2 _, (fun h => by cases h), fun _ => ?_⟩⟩
  refine ⟨NCI w n gn, NCM n, ⟨0, ([], List.replicate 6 0), F, rfl, Nat.zero_le _, by omega, n2, ⟨0, 0, 0, 0, 0, 0, rfl, by omega, by omega, by omega, by omega, by omega, by omega, rfl⟩, fun b hb => Nat.le_trans f1.size (ge2 b hb)⟩, ?_⟩
  rintro b6 i7 w3 f3 ⟨k, s, F3, rfl, hk, hk80, hn, hcons, ge⟩
  have hmax : (n : Int) ≤ 9223372036854775807 := by omega
  refine ⟨fun hlt => ⟨fun h80 => ?_, fun h80 => ret_leaf f3 rfl⟩, fun hge => ret_leaf f3 rfl⟩
  obtain ⟨p, o, A', n', c', rfl, hok, hc, hf⟩ := op_get (h.below (fr_below f3)) k (by omega)
  have hk1 : k < n := by omega
  have hk2 : k < 80 := by omega
  have hB : 6 * k < 1000000 := by omega
  have c1 := cells_nth (i := 1) hc rfl
  have c2 := cells_nth (i := 2) hc rfl
  have c3 := cells_nth (i := 3) hc rfl
  refine ⟨by omega, hlt, p, o, rfl, _, cells_nth (i := 0) hc rfl, fun m3 => ⟨by omega, hlt, p, o, rfl, _, c1, ?_⟩, fun m3 => ⟨fun m4 => ⟨by omega, hlt, p, o, rfl, _, c1, ?_⟩, fun m4 => ⟨fun m5 => ⟨by omega, hlt, p, o, rfl, _, c1, ?_⟩, fun m5 => ⟨fun m6 => ?_, fun m6 => ⟨fun m7 => ⟨by omega, hlt, p, o, rfl, _, c1, ?_⟩, fun m7 => ⟨by omega, hlt, p, o, rfl, A', n', c', c3, ?_⟩⟩⟩⟩⟩⟩
  · refine (nDeliver hn _).mono ?_
    rintro e w4 ⟨⟨A4, m4, c4, rfl, s4⟩, F4, n4, u4⟩
    exact ⟨_, _, _, _, _, _, A4, m4, c4, _, rfl, ⟨up_fr f3 u4 ge, mild_nil u4.fr.size⟩, counts_tail (up_fr f3 u4 ge) n4 (cons_deliver hcons hB _) (up_ge u4 ge f3.size) hk1 hk2 hmax⟩
  · refine (nDrop hn _).mono ?_
    rintro e w4 ⟨F4, n4, u4, rfl⟩
    exact ⟨_, rfl, ⟨up_fr f3 u4 ge, mild_nil u4.fr.size⟩, counts_tail (up_fr f3 u4 ge) n4 (cons_drop hcons hB _) (up_ge u4 ge f3.size) hk1 hk2 hmax⟩
  · refine (nDouble hn _).mono ?_
    rintro e w4 ⟨F4, n4, u4, rfl⟩
    exact ⟨_, rfl, ⟨up_fr f3 u4 ge, mild_nil u4.fr.size⟩, counts_tail (up_fr f3 u4 ge) n4 (cons_double hcons hB _) (up_ge u4 ge f3.size) hk1 hk2 hmax⟩
  · refine ⟨[], (fun b hb => by cases hb), by omega, hlt, p, o, rfl, fun w4 f4 b4 => ⟨_, cells_below c1 b4, ⟨cells_lt c1, by simp⟩, by omega, hlt, p, o, rfl, _, cells_below c2 b4, ⟨cells_lt c1, by simp⟩, ?_⟩⟩
    refine (nTurn (hn.below b4) _ _).mono ?_
    rintro e w5 ⟨F5, n5, u5, rfl⟩
    exact ⟨_, rfl, ⟨up_fr f4 u5 ge, mild_nil u5.fr.size⟩, counts_tail (up_fr f4 u5 ge) n5 (cons_turn hcons _ _) (up_ge u5 ge f4.size) hk1 hk2 hmax⟩
  · refine (nAt hn _).mono ?_
    rintro e w4 ⟨⟨A4, m4, c4, rfl, s4⟩, b4⟩
    exact ⟨_, _, _, _, _, _, A4, m4, c4, _, rfl, ok_ret b4 f3, counts_tail (f3.step b4) (hn.below b4) (hcons.more (by omega)) ge hk1 hk2 hmax⟩
  · refine (few_c hf).mono ?_
    rintro e w4 ⟨A4, n4, c4, hs4, rfl, o4, a4, b4⟩
    have f4 := f3.step b4
    refine ⟨A4, n4, c4, rfl, ok_ret b4 f3, ?_⟩
    have fs4 : Fs w4 (fun b => b < w.heap.size ∨ w3.heap.size ≤ b) (.slice A4 n4 c4) (fewV (xs[k].2.2.2.map toF)) := ⟨hs4, o4.sl.weaken fun b hb _ => .inr hb, Al.mono a4 fun h f hh => hh.mono fun b hb hl => ⟨.inl hb, b4.block b hl⟩⟩
    refine (nSend (hn.below b4) (fun b hb => by
      rintro (h | h)
      · have := ge b hb; omega
      · have := hn.lt b hb; omega) fs4).mono ?_
    rintro e w5 ⟨F5, n5, u5, rfl⟩
    exact ⟨_, rfl, ⟨up_fr f4 u5 ge, mild_nil u5.fr.size⟩, counts_tail (up_fr f4 u5 ge) n5 (cons_send hcons (by omega) _) (up_ge u5 ge f4.size) hk1 hk2 hmax⟩
end Go.Proofs.Ytdjjfpcfclheiaa
