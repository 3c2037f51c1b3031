/- Net: the law NetTurns. -/
import Derived.Test.YtdjjfpcfclheiaaNetH
import Derived.Test.YtdjjfpcfclheiaaNetM
import Derived.Test.YtdjjfpcfclheiaaFrP
import Derived.Test.YtdjjfpcfclheiaaFrN
set_option linter.unusedSimpArgs false
set_option linter.unusedVariables false
namespace Go.Proofs.Ytdjjfpcfclheiaa
open Go Go.RowKit Go.Proofs Go.Trc Go.Sx
/-! ### The plain law -/
theorem take_putW {f : FV} (h : mayV f = 0) : Frm.takeV (putW f) = (f, 0) := Frm.take_put h
theorem ok_putW {f : FV} (h : mayV f = 0) : Frm.takeOk (putW f) = true := by
  have := take_putW h
  unfold Frm.takeV at this
  split at this
  · assumption
  · injection this with _ h2; cases h2
theorem putW_len (f : FV) : (putW f).length = 19 + f.bd.length := Frm.put_len ..
theorem turnB_eq {b : List UInt8} {d : Nat} (h : d < b.length) : turnB b d = b.take d ++ [b[d] ^^^ 1] ++ b.drop (d + 1) := by
  unfold turnB
  rw [getD_at h, List.set_eq_take_append_cons_drop, if_pos h]
  simp
theorem turnB_bad {b : List UInt8} {d : Nat} (h : d < b.length) (hok : Frm.takeOk b = true) : (Frm.takeV (turnB b d)).2 = 2 := by
  have hno : Frm.takeOk (turnB b d) = false := by
    cases hh : Frm.takeOk (turnB b d) with
    | false => rfl
    | true =>
      rw [turnB_eq h] at hh
      have e : b.take d ++ [b[d]] ++ b.drop (d + 1) = b := by
        rw [List.append_assoc, List.singleton_append, ← List.drop_eq_getElem_cons h, List.take_append_drop]
      exact absurd (Frm.burst (pre := b.take d) (mid := [b[d]]) (post := b.drop (d + 1)) (es := [1]) rfl (by decide) (by rw [e]; exact hok) hh) (by decide)
  unfold Frm.takeV
  rw [hno]; rfl
theorem turnB_back {b : List UInt8} {d : Nat} (h : d < b.length) : turnB (turnB b d) d = b := by
  unfold turnB
  have h2 : d < (b.set d (b.getD d 0 ^^^ 1)).length := by rw [List.length_set]; exact h
  rw [getD_at h2, List.getElem_set_self, List.set_set, getD_at h, UInt8.xor_assoc, UInt8.xor_self, UInt8.xor_zero]
  exact List.set_getElem_self h
theorem turnB_len (b : List UInt8) (d : Nat) : (turnB b d).length = b.length := by unfold turnB; rw [List.length_set]
def two (b c : List UInt8) : List (List UInt8) := [b, c]
theorem send_one {f : FV} (h : mayV f = 0) : sendV ([], z6) [f] = (([putW f], addV z6 0 1), 1) := by
  unfold sendV
  show sendF (([], z6), 0) f = _
  unfold sendF
  rw [if_pos h]; rfl
theorem send_none {f : FV} (h : ¬ mayV f = 0) : sendV ([], z6) [f] = (([], z6), 0) := by
  unfold sendV
  show sendF (([], z6), 0) f = _
  unfold sendF
  rw [if_neg h]
theorem dbl_E (b : List UInt8) (ts : List Int) : doubleE ([b], ts) 0 = 0 := rfl
theorem dbl_V (b : List UInt8) (ts : List Int) : doubleV ([b], ts) 0 = ([b, b], addV ts 5 1) := rfl
theorem trn_E (b c : List UInt8) (ts : List Int) (k : Int) : turnE ([b, c], ts) 0 k = if 0 ≤ k ∧ k < (b.length : Int) then 0 else 1 := rfl
theorem trn_V {b c : List UInt8} {ts : List Int} {d : Nat} (h : d < b.length) : turnV ([b, c], ts) 0 (d : Int) = ([turnB b d, c], ts) := by
  unfold turnV
  rw [if_pos (by rw [trn_E, if_pos (by omega)])]
  rfl
theorem trn_stay {b c : List UInt8} {ts : List Int} {k : Int} (h : ¬ (0 ≤ k ∧ k < (b.length : Int))) : turnV ([b, c], ts) 0 k = ([b, c], ts) := by
  unfold turnV
  rw [if_neg (by rw [trn_E, if_neg h]; decide)]
theorem at_0 (b c : List UInt8) : atV [b, c] 0 = Frm.takeV b := rfl
theorem at_1 (b c : List UInt8) : atV [b, c] 1 = Frm.takeV c := rfl
theorem Net.loc {w w' : World} {g g2 : Nat} {xss : List (List UInt8)} {ts : List Int} {F : List Nat} (h : Net w g xss ts F) (f : Fr (fun b => b ∈ [g2]) w w') (h2 : ∃ C fr, w.heap[g2]? = some (.cells C TF fr)) (hn : g2 ∉ F) : Net w' g xss ts F := by
  cases h with | mk t Ft h => exact .mk t Ft (h.loc f h2 hn)
set_option maxHeartbeats 16000000 in
theorem netTurns_wk {w : World} {f : FV} {A : Option Addr} {n c : Nat} (wf : Fixed.wf ((f.kd, f.fr, f.to, f.ep, f.sq, f.ak, ⟨A, n, c⟩) : Fh)) (hb : Sl w (fun b => b < w.heap.size) (.slice A n c) f.bd) (a : Int) :
    Calls Try.prog 8 #[.agg #[.int .i64 f.kd, .int .i64 f.fr, .int .i64 f.to, .int .i64 f.ep, .int .i64 f.sq, .int .i64 f.ak, .slice A n c], .int .i64 a] w (Ret (.bool true) w) := by
  refine netTurns_sx _ (fun _ => False) w f.kd f.fr f.to f.ep f.sq f.ak A n c a ?_
  intro g10 hg10 w1 f1 b1 lo10 t10
  refine (netShown_c w1).mono ?_
  rintro e w2 ⟨rfl, b2⟩
  have f2 := f1.step b2
  refine ⟨_, rfl, ok_ret b2 f1, ?_⟩
  refine (netNew_c w2).mono ?_
  rintro e w3 ⟨gn, F, n3, ge3, b3, rfl⟩
  have f3 := f2.step b3
  refine ⟨_, rfl, ok_ret b3 f2, (fun h => by cases h), fun _ => ⟨_, eql_net w3 _, (fun h => by cases h), fun _ => ?_⟩⟩
  intro g14 hg14 w4 f4 b4 lo14 t14
  have l10 := heap_lt t10
  have l14 := heap_lt t14
  have s1 := b1.size
  have s2 := b2.size
  have s3 := b3.size
  have s4 := b4.size
  have lt3 := n3.lt
  have hb4 : Sl w4 (fun b => b < w.heap.size) (.slice A n c) f.bd := hb.below (fr_below f4)
  have fs4 : Fs w4 (fun b => b = g14 ∨ b < w.heap.size) (.slice (some ⟨g14, 0, none⟩) 1 1) [f] := fs_one t14 wf (hb4.weaken fun b hb _ => .inr hb) (.inl rfl)
  refine (few_c fs4).mono ?_
  rintro e w5 ⟨A5, n5, c5, hs5, rfl, o5, a5, b5⟩
  have s5 := b5.size
  have fs5 : Fs w5 (fun b => (b = g14 ∨ b < w.heap.size) ∨ w4.heap.size ≤ b) (.slice A5 n5 c5) [cutF f] := ⟨hs5, o5.sl.weaken fun b hb _ => .inr hb, Al.mono a5 fun h f hh => hh.mono fun b hb hl => ⟨.inl hb, b5.block b hl⟩⟩
  have hn5 := fs5.len
  simp only [List.length_singleton] at hn5
  obtain ⟨p, o, A', n', c', rfl, _, hc, wf', hb5, _⟩ := fs5.get 0 (by simp)
  refine ⟨_, n5, c5, rfl, ok_ret b5 f4, by omega, by omega, p, o, rfl, _, _, _, _, _, _, A', n', c', hc, ?_⟩
  intro g29 hg29 w6 f6 q6 lo29 t29
  have s6 := q6.size
  have l29 := heap_lt t29
  have t10' : w5.heap[g10]? = w1.heap[g10]? := by
    rw [b5.block g10 (by omega), b4.block g10 (by omega), b3.block g10 (by omega), b2.block g10 (by omega)]
  have a10 : g10 ∉ F := fun hm => by have := ge3 g10 hm; omega
  have a14 : g14 ∉ F := fun hm => by have := lt3 g14 hm; omega
  have a29 : g29 ∉ F := fun hm => by have := lt3 g29 hm; omega
  have n6 := ((n3.below b4).below b5).loc q6 ⟨_, _, t10'.trans t10⟩ a10
  have geF : ∀ b ∈ F, w.heap.size ≤ b := fun b hb => by have := ge3 b hb; omega
  have hb6 : Sl w6 (fun b => b ∉ F) (.slice A' n' c') (cutF f).bd := hb5.mono fun b hb hl => by
    have hF : b ∉ F := fun hm => by
      have h1 := ge3 b hm
      have h2 := lt3 b hm
      rcases hb with (rfl | hb) | hb
      · exact a14 hm
      · omega
      · omega
    refine ⟨hF, q6.block b hl fun hm => ?_⟩
    simp at hm; subst hm
    omega
  have nb := hb6.len
  have hlen : (cutF f).bd.length ≤ 100 := by unfold cutF; simp; omega
  have fs6 : Fs w6 (fun b => b ∉ F) (.slice (some ⟨g29, 0, none⟩) 1 1) [cutF f] := fs_one t29 wf' hb6 a29
  have ap6 : ∀ b ∈ [g29, g14, g10], b ∉ F := by
    intro b hb
    simp at hb
    rcases hb with rfl | rfl | rfl
    · exact a29
    · exact a14
    · exact a10
  have lt6 : ∀ b ∈ [g29, g14, g10], b < w6.heap.size := by
    intro b hb
    simp at hb
    omega
  have hbU : ∀ {w' F'}, Up F w6 F' w' → Sl w' (fun _ => True) (.slice A' n' c') (cutF f).bd := fun U => hb6.mono fun b hb hl => ⟨trivial, U.fr.block b hl hb⟩
  refine (nSend n6 (fun b hb h => h hb) fs6).mono ?_
  rintro e w7 ⟨F7, n7, u7, rfl⟩
  have f7 := up_fr f6 u7 geF
  have ge7 := up_ge u7 geF f6.size
  have ap7 := apart_up u7 lt6 ap6
  refine ⟨_, rfl, ⟨f7, mild_up u7 ap6⟩, fun hne => ?_, fun h1 => ?_⟩
  · have h0 : ¬ mayV (cutF f) = 0 := fun h => hne (by show (sendV ([], z6) [cutF f]).2 = 1; rw [send_one h])
    refine (Frm.refMay_c w7 _ _ _ _ _ _ _ _ _).mono ?_
    rintro e w8 ⟨rfl, b8⟩
    refine ⟨_, rfl, ok_ret b8 f7, ret_leaf (f7.step b8) ?_⟩
    have hm : Frm.mayF (cutF f).kd (cutF f).fr (cutF f).to (cutF f).ep (cutF f).sq (cutF f).ak n' = mayV (cutF f) := by unfold mayV; rw [nb]
    show Value.bool (Frm.mayF (cutF f).kd (cutF f).fr (cutF f).to (cutF f).ep (cutF f).sq (cutF f).ak n' != 0) = _
    rw [hm]
    simp [bne, h0]
  have h0 : mayV (cutF f) = 0 := by
    apply Classical.byContradiction
    intro h
    have h1 : (sendV ([], z6) [cutF f]).2 = 1 := h1
    rw [send_none h] at h1
    cases h1
  have n7 : Net w7 gn [putW (cutF f)] (addV z6 0 1) F7 := by
    have n7 : Net w7 gn (sendV ([], z6) [cutF f]).1.1 (sendV ([], z6) [cutF f]).1.2 F7 := n7
    rw [send_one h0] at n7
    exact n7
  have tk := take_putW h0
  have okb := ok_putW h0
  have lb := putW_len (cutF f)
  generalize putW (cutF f) = bb at *
  refine (nDouble n7 0).mono ?_
  rintro e w8 ⟨F8, n8, u8, rfl⟩
  rw [dbl_V] at n8
  have f8 := up_fr f7 u8 ge7
  have ge8 := up_ge u8 ge7 f7.size
  have U8 := u7.trans u8
  have ap8 := apart_up U8 lt6 ap6
  refine ⟨_, rfl, ⟨f8, mild_up u8 ap7⟩, fun hne => absurd (dbl_E _ _) hne, fun _ => ?_⟩
  refine (nLen n8).mono ?_
  rintro e w9 ⟨rfl, b9⟩
  have f9 := f8.step b9
  have n9 := n8.below b9
  have U9 := U8.below b9
  refine ⟨_, rfl, ok_ret b9 f8, fun hne => absurd rfl hne, fun _ => ?_⟩
  generalize addV (addV z6 0 1) 5 1 = ts at *
  have hx1 : atV (turnV ([bb, bb], ts) 0 a).1 1 = (cutF f, 0) := by
    by_cases hd : 0 ≤ a ∧ a < (bb.length : Int)
    · obtain ⟨d, rfl⟩ : ∃ d : Nat, a = d := ⟨a.toNat, by omega⟩
      rw [trn_V (by omega)]
      exact tk
    · rw [trn_stay hd]; exact tk
  refine (nTurn n9 0 a).mono ?_
  rintro e w10 ⟨F10, n10, u10, rfl⟩
  have f10 := up_fr f9 u10 ge8
  have ge10 := up_ge u10 ge8 f9.size
  have U10 := U9.trans u10
  have ap10 := apart_up U10 lt6 ap6
  have lt10 := n10.lt
  refine ⟨_, rfl, ⟨f10, mild_up u10 ap8⟩, ?_⟩
  refine (nAt n10 0).mono ?_
  rintro e w11 ⟨⟨A11, m11, c11, rfl, s11⟩, b11⟩
  have f11 := f10.step b11
  refine ⟨_, _, _, _, _, _, A11, m11, c11, _, rfl, ok_ret b11 f10, ?_⟩
  intro g44 hg44 w12 f12 b12 lo44 t44
  have n12 := (n10.below b11).below b12
  refine (nAt n12 1).mono ?_
  rintro e w13 ⟨r13, b13⟩
  rw [hx1] at r13
  obtain ⟨A13, m13, c13, rfl, s13⟩ := r13
  have f13 := f12.step b13
  refine ⟨_, _, _, _, _, _, A13, m13, c13, _, rfl, ok_ret b13 f12, ?_⟩
  intro g55 hg55 w14 f14 b14 lo55 t55
  have n14 := (n12.below b13).below b14
  have U14 := (((U10.below b11).below b12).below b13).below b14
  refine (Frm.same_c (s13.below b14) (hbU U14)).mono ?_
  rintro e w15 ⟨rfl, b15⟩
  have f15 := f14.step b15
  have n15 := n14.below b15
  have U15 := U14.below b15
  have hw : IntKind.i64.wrap ((19 : Int) + (n' : Int)) = (bb.length : Int) := by rw [wrap_in (by omega)]; omega
  rw [hw]
  have stay : ∀ {P : Prop}, ¬ (0 ≤ a ∧ a < (bb.length : Int)) → turnE ([bb, bb], ts) 0 a = 1 ∧ (atV (turnV ([bb, bb], ts) 0 a).1 0).2 = 0 := by
    intro _ hd
    refine ⟨by rw [trn_E, if_neg hd], ?_⟩
    rw [trn_stay hd]
    show (Frm.takeV bb).2 = 0
    rw [tk]
  have leaf : ¬ (0 ≤ a ∧ a < (bb.length : Int)) → _ := fun hd => (⟨fun _ => ⟨fun _ => ⟨fun _ => ret_leaf f15 (by rw [same_true]), fun h => absurd rfl h⟩, fun h => absurd (stay (P := True) hd).2 h⟩, fun h => absurd (stay (P := True) hd).1 h⟩ :
      (turnE ([bb, bb], ts) 0 a = (1 : Int) → (((atV (turnV ([bb, bb], ts) 0 a).1 0).2 = (0 : Int) → (((0 : Int) = (0 : Int) → Ret (.bool true) w (.returned (.bool (Frm.sameF (cutF f).kd (cutF f).fr (cutF f).to (cutF f).ep (cutF f).sq (cutF f).ak (cutF f).bd (cutF f).kd (cutF f).fr (cutF f).to (cutF f).ep (cutF f).sq (cutF f).ak (cutF f).bd))) w15) ∧ (¬ (0 : Int) = (0 : Int) → Ret (.bool true) w (.returned (.bool false)) w15))) ∧ (¬ (atV (turnV ([bb, bb], ts) 0 a).1 0).2 = (0 : Int) → Ret (.bool true) w (.returned (.bool false)) w15))) ∧ (¬ turnE ([bb, bb], ts) 0 a = (1 : Int) → Ret (.bool true) w (.returned (.bool false)) w15))
  refine ⟨_, rfl, ok_ret b15 f14, fun ha => leaf (by omega), fun ha => ⟨fun hge => leaf (by omega), fun hlt => ?_⟩⟩
  obtain ⟨d, rfl⟩ : ∃ d : Nat, a = d := ⟨a.toNat, by omega⟩
  have hd : d < bb.length := by omega
  have hE1 : turnE ([bb, bb], ts) 0 (d : Int) = 0 := by rw [trn_E, if_pos (by omega)]
  have hA1 : (atV (turnV ([bb, bb], ts) 0 (d : Int)).1 0).2 = 2 := by rw [trn_V hd]; exact turnB_bad hd okb
  rw [trn_V hd] at n15
  have n15 : Net w15 gn [turnB bb d, bb] ts F10 := n15
  have hd2 : d < (turnB bb d).length := by rw [turnB_len]; exact hd
  have sz13 := b13.size
  have sz12 := b12.size
  have sz11 := b11.size
  have apx : ∀ b ∈ [g55, g44, g29, g14, g10], b ∉ F10 := by
    intro b hb
    simp only [List.mem_cons, List.not_mem_nil, or_false] at hb
    rcases hb with rfl | rfl | rfl | rfl | rfl
    · exact fun hm => by have := lt10 _ hm; omega
    · exact fun hm => by have := lt10 _ hm; omega
    · exact ap10 _ (by simp)
    · exact ap10 _ (by simp)
    · exact ap10 _ (by simp)
  refine (nTurn n15 0 (d : Int)).mono ?_
  rintro e w16 ⟨F16, n16, u16, rfl⟩
  rw [trn_V hd2, turnB_back hd] at n16
  have hE2 : turnE ([turnB bb d, bb], ts) 0 (d : Int) = 0 := by rw [trn_E, if_pos (by omega)]
  have f16 := up_fr f15 u16 ge10
  have U16 := U15.trans u16
  refine ⟨_, rfl, ⟨f16, mild_up u16 apx⟩, ?_⟩
  refine (nAt n16 0).mono ?_
  rintro e w17 ⟨r17, b17⟩
  have hx2 : atV ([bb, bb], ts).1 0 = (cutF f, 0) := tk
  rw [hx2] at r17
  obtain ⟨A17, m17, c17, rfl, s17⟩ := r17
  have f17 := f16.step b17
  refine ⟨_, _, _, _, _, _, A17, m17, c17, _, rfl, ok_ret b17 f16, ?_⟩
  intro g68 hg68 w18 f18 b18 lo68 t68
  refine (Frm.same_c (s17.below b18) (hbU ((U16.below b17).below b18))).mono ?_
  rintro e w19 ⟨rfl, b19⟩
  have f19 := f18.step b19
  exact ⟨_, rfl, ok_ret b19 f18, fun _ => ⟨fun _ => ⟨fun _ => ⟨fun _ => ⟨fun _ => ⟨fun _ => ret_leaf f19 (congrArg Value.bool (same_true (cutF f))), fun h => absurd rfl h⟩, fun h => absurd hE2 h⟩, fun h => by have := (same_true (cutF f)).symm.trans h; cases this⟩, fun h => absurd rfl h⟩, fun h => absurd hA1 h⟩, fun h => absurd hE1 h⟩
theorem agg_of {v : Value} {cs : Array Value} (h : v.cells.toList = cs.toList) (n : 2 ≤ cs.size) : v = .agg cs := by
  have e : v.cells = cs := Array.ext' h
  cases v
  case agg a => exact congrArg Value.agg e
  all_goals (exfalso; rw [← e] at n; simp only [Value.cells] at n; simp at n)
theorem netTurns_walk (w : World) (v : Value) (x : FrT) (h : Rep.K w (fun b => b < w.heap.size) x v.cells.toList) (a : Int) (ha : -9223372036854775808 ≤ a ∧ a ≤ 9223372036854775807) :
    Calls Try.prog 8 #[v, .int .i64 a] w fun e w' => e = .returned (.bool true) ∧ Below w.heap.size w w' := by
  obtain ⟨hd, ⟨hx, rfl, s⟩, k⟩ := head_of h
  obtain ⟨e, wf⟩ := Fixed.iff.1 k
  obtain rfl := agg_of (cs := #[.int .i64 (toF x).kd, .int .i64 (toF x).fr, .int .i64 (toF x).to, .int .i64 (toF x).ep, .int .i64 (toF x).sq, .int .i64 (toF x).ak, .slice hx.A hx.n hx.c]) (by rw [e]; rfl) (by simp)
  exact netTurns_wk (f := toF x) wf s a
end Go.Proofs.Ytdjjfpcfclheiaa
