/- Opcode: the bytes of an edit; the document's Put. -/
import Derived.Test.YtfjenamomipmdaaDoorOcB
set_option linter.unusedSimpArgs false
set_option linter.unusedVariables false
namespace Go.Proofs.YtfjenamomipmdaaDoor
open Go Go.RowKit Go.Proofs Go.Trc Go.Sx
/-- An operation's bytes; an edit's. -/
def restB (o : OpV) : List UInt8 :=
  if o.kd = 3 then cornB o.a1 o.a2 o.a3 o.a4 o.a5 ++ cornB o.b1 o.b2 o.b3 o.b4 o.b5
  else if o.kd = 5 then idB o.s1 o.n1 ++ idB o.s2 o.n2 ++ [u8 o.nn]
  else if o.kd = 6 then idB o.s2 o.n2
  else if o.kd = 7 then flagB o.oe :: textB o.tx
  else if o.kd = 8 then flagB o.oe :: numB o.nn
  else []
def opB (o : OpV) : List UInt8 := u8 o.kd :: idB o.s o.n ++ restB o
def editB (l : List OpV) : List UInt8 := u8 l.length :: l.flatMap opB
def putV (b : List UInt8) (l : List OpV) : List UInt8 × Int := if mayEditV l = 0 then (b ++ editB l, 0) else ([], mayEditV l)
theorem idOk_iff {s n : Int} (h : idOk s n = true) : 1 ≤ s ∧ s ≤ 8 ∧ 1 ≤ n ∧ n ≤ 1048576 := by
  unfold idOk at h
  simp only [Bool.and_eq_true, decide_eq_true_eq] at h
  omega
structure Good (o : OpV) : Prop where
  kd : 1 ≤ o.kd ∧ o.kd ≤ 8
  id : idOk o.s o.n = true
  k3 : o.kd = 3 → cornerOk o.a1 o.a2 o.a3 o.a4 o.a5 = true ∧ cornerOk o.b1 o.b2 o.b3 o.b4 o.b5 = true
  k5 : o.kd = 5 → idOk o.s1 o.n1 = true ∧ idOk o.s2 o.n2 = true ∧ 0 ≤ o.nn ∧ o.nn ≤ 3
  k6 : o.kd = 6 → idOk o.s2 o.n2 = true
  k7 : o.kd = 7 → labelOk o.tx = true
  k8 : o.kd = 8 → attrOk o.nn = true
  only : onlyV o = o
theorem good_of {o : OpV} (h : mayV o = 0) : Good o := by
  unfold mayV at h
  split at h
  · rename_i ho
    unfold badV at h
    split at h
    · rename_i hp
      rw [Bool.and_eq_true] at hp
      obtain ⟨h1, h2⟩ := hp
      unfold partsOk at h2
      refine ⟨?_, h1, fun e => ?_, fun e => ?_, fun e => ?_, fun e => ?_, fun e => ?_, ho⟩
      · split at h2
        · omega
        · split at h2
          · omega
          · split at h2
            · omega
            · split at h2
              · omega
              · split at h2
                · omega
                · cases h2
      · rw [if_neg (by omega), if_neg (by omega), if_pos e, Bool.and_eq_true] at h2; exact h2
      · rw [if_neg (by omega), if_neg (by omega), if_neg (by omega), if_pos e, Bool.and_eq_true, Bool.and_eq_true, decide_eq_true_eq] at h2; exact h2
      · rw [if_neg (by omega), if_pos e] at h2; exact h2
      · split at h
        · cases h
        · rename_i hn
          simpa [e] using hn
      · rw [if_neg (by omega), if_neg (by omega), if_neg (by omega), if_neg (by omega), if_pos e] at h2; exact h2
    · cases h
  · cases h
theorem corner_iff {a1 a2 a3 a4 a5 : Int} (h : cornerOk a1 a2 a3 a4 a5 = true) : (1 ≤ a1 ∧ a1 ≤ 8 ∧ 1 ≤ a2 ∧ a2 ≤ 1048576) ∧ (0 ≤ a3 ∧ a3 ≤ 8 ∧ 0 ≤ a4 ∧ a4 ≤ 1048576) ∧ 0 ≤ a5 ∧ a5 ≤ 1 := by
  unfold cornerOk at h
  rw [Bool.and_eq_true, Bool.or_eq_true, decide_eq_true_eq] at h
  refine ⟨idOk_iff h.1, ?_⟩
  rcases h.2 with ⟨rfl, rfl, rfl⟩ | h2
  · omega
  · unfold dartOk at h2
    rw [Bool.and_eq_true, decide_eq_true_eq] at h2
    have := idOk_iff h2.1
    omega
theorem label_size {s : ByteArray} (h : labelOk s = true) : s.size ≤ 16 := by
  unfold labelOk at h
  rw [Bool.and_eq_true, decide_eq_true_eq, decide_eq_true_eq] at h
  exact h.2
theorem idB_len (s n : Int) : (idB s n).length = 4 := rfl
theorem cornB_len (a1 a2 a3 a4 a5 : Int) : (cornB a1 a2 a3 a4 a5).length ≤ 9 := by unfold cornB; split <;> simp [idB]
theorem opB_len {o : OpV} (g : Good o) : (opB o).length ≤ 40 := by
  unfold opB restB
  have h1 := cornB_len o.a1 o.a2 o.a3 o.a4 o.a5
  have h2 := cornB_len o.b1 o.b2 o.b3 o.b4 o.b5
  split
  · simp [idB]; omega
  · split
    · simp [idB]
    · split
      · simp [idB]
      · split
        · rename_i h
          have := label_size (g.k7 h)
          simp [idB, textB]; omega
        · split
          · simp [idB, numB]
          · simp [idB]
theorem firstBad_all : ∀ {l : List OpV}, firstBad l = 0 → ∀ o ∈ l, mayV o = 0
  | [], _ => by simp
  | o :: l, h => by
    unfold firstBad at h
    split at h
    · rename_i h0
      intro x hx
      rcases List.mem_cons.1 hx with rfl | hx
      · exact h0
      · exact firstBad_all h x hx
    · rename_i h0; exact absurd h h0
theorem may_good {l : List OpV} (h : mayEditV l = 0) : (1 ≤ l.length ∧ l.length ≤ 6) ∧ ∀ o ∈ l, Good o := by
  unfold mayEditV at h
  split at h
  · cases h
  · exact ⟨by omega, fun o ho => good_of (firstBad_all h o ho)⟩
theorem flat_op_len : ∀ {l : List OpV}, (∀ o ∈ l, Good o) → (l.flatMap opB).length ≤ 40 * l.length
  | [], _ => by simp
  | o :: l, h => by
    rw [List.flatMap_cons, List.length_append, List.length_cons]
    have := opB_len (h o (by simp))
    have := flat_op_len (l := l) fun x hx => h x (List.mem_cons_of_mem _ hx)
    omega
/-- What comes of putting: bytes, and what is wrong. -/
def RetB (w : World) (x : List UInt8 × Int) (en : Ending) (w' : World) : Prop := ∃ A n c, en = .returned (.tuple #[.slice A n c, .int .i64 x.2]) ∧ OwnF w' w.heap.size 5 (.slice A n c) x.1 ∧ Below w.heap.size w w'
theorem Rw.retB {w0 w : World} {A : Option Addr} {n c : Nat} {xs ys : List UInt8} {G : List Nat} (h : Rw none w0 w0.heap.size 5 w (.slice A n c) xs G) (hx : xs = ys) : RetB w0 (ys, 0) (.returned (.tuple #[.slice A n c, .int .i64 0])) w :=
  ⟨A, n, c, rfl, by rw [← hx]; exact h.own, fr_below (fr_none h.fr)⟩
theorem take_op (l : List OpV) (k : Nat) (h : k < l.length) : (l.take (k + 1)).flatMap opB = (l.take k).flatMap opB ++ opB l[k] := by
  rw [List.take_add_one, List.getElem?_eq_getElem h, List.flatMap_append]; simp
theorem one_len {α : Type} (xs : List α) (x : α) : (xs ++ [x]).length = xs.length + 1 := by simp
set_option maxHeartbeats 4000000 in
theorem ref10Put_c {w : World} {ok ok' : Nat → Prop} {A A3 : Option Addr} {n c n4 c5 : Nat} {xs : List UInt8} {l : List OpV} (h : Sl w ok (.slice A n c) xs) (hl : n ≤ 50000) (hops : Sl w ok' (.slice A3 n4 c5) l) :
    Calls Tryd.prog 17 #[.slice A n c, .agg #[.slice A3 n4 c5]] w (RetB w (putV xs l)) := by
  have hn := h.len
  have hn4 := hops.len
  refine ref10Put_sx _ (fun b => some b = none) w A n c A3 n4 c5 ?_
  intro g6 hg6 w1 f1 b1 lo6 t6
  refine (ref_mayEdit_c w1 ok' A3 n4 c5 l (hops.below b1)).mono ?_
  rintro e w2 ⟨rfl, b2⟩
  have f2 := f1.step b2
  refine ⟨_, rfl, ok_ret b2 f1, fun hne => ?_, fun he => ?_⟩
  · have : putV xs l = ([], mayEditV l) := by unfold putV; rw [if_neg hne]
    rw [this]
    exact ⟨none, 0, 0, rfl, OwnF.nil _ _ _, fr_below (fr_none f2)⟩
  have hpv : putV xs l = (xs ++ editB l, 0) := by unfold putV; rw [if_pos he]
  obtain ⟨hlen, hgood⟩ := may_good he
  intro g8 hg8 w3 f3 b3 lo8 t8
  have lt6 : g6 < w3.heap.size := Nat.lt_of_lt_of_le (heap_lt t6) (Nat.le_trans b2.size b3.size)
  have r3 : Rw none w w.heap.size 5 w3 (.slice (some ⟨g8, 0, none⟩) 0 0) ([] : List UInt8) [g8, g6] := Rw.first (fr_none f3) hg8 t8 (by simp; exact ⟨heap_lt t8, lt6⟩)
  have h3 : Sl w3 ok (.slice A n c) xs := h.below (fr_below (fr_none f3))
  obtain ⟨w4, A9, n10, c11, hr4, m4, r4⟩ := r3.append 22 22 (.int .u8 0) 1 Tryd.underlying22 infoB1 rfl h3.arg (by simp; omega) (by simp; omega)
  rw [List.nil_append] at r4
  refine ⟨w4, A9, n10, c11, hr4, m4, ?_⟩
  intro g12 hg12 w5 f5 b5 lo12 t12
  have r5 := r4.on b5 [g12] (by simp only [List.mem_singleton]; rintro _ rfl; exact ⟨lo12, heap_lt t12⟩)
  -- a byte is appended
  obtain ⟨w6, A13, n13, c13, hr13, m13, r13, g13, -⟩ := r5.append2 22 22 (.int .u8 0) 1 Tryd.underlying22 infoB1 rfl (arg_b [u8 l.length] 1 rfl _ (by rw [hn4, u8_wrap]; rfl) t12 (by omega)) (by simp; omega) (by simp; omega)
  refine ⟨w6, A13, n13, c13, hr13, m13, fun A n c i w' => ∃ k : Nat, i = (k : Int) ∧ k ≤ l.length ∧ Rw none w w.heap.size 5 w' (.slice A n c) (xs ++ [u8 l.length] ++ (l.take k).flatMap opB) [g12, g8, g6], fun _ _ _ i _ => (n4 - i : Int).toNat, ⟨0, rfl, Nat.zero_le _, by simpa using r13⟩, ?_⟩
  rintro A16 n17 n18 _ w7 f7 ⟨k, rfl, hk, r⟩
  refine ⟨fun hlt => ?_, fun hge => ?_⟩
  · have hlt' : k < l.length := by omega
    obtain ⟨b, o, hA, _, _, _, hc⟩ := Sl.op (hops.below (fr_below (fr_none f7))) k hlt'
    have hg := hgood _ (List.getElem_mem hlt')
    have hfl := flat_op_len (l := l.take k) fun x hx => hgood x (List.mem_of_mem_take hx)
    have htl : (l.take k).length ≤ 6 := by rw [List.length_take]; omega
    have hid := idOk_iff hg.id
    have fin : ∀ (A' : Option Addr) (n' c' : Nat) (w' : World) (G' : List Nat) (ys : List UInt8), (∀ g ∈ [g12, g8, g6], g ∈ G') → Rw none w w.heap.size 5 w' (.slice A' n' c') (xs ++ [u8 l.length] ++ (l.take k).flatMap opB ++ [u8 l[k].kd] ++ idB l[k].s l[k].n ++ ys) G' → ys = restB l[k] →
        (∃ k' : Nat, IntKind.i64.wrap ((k : Int) + 1) = (k' : Int) ∧ k' ≤ l.length ∧ Rw none w w.heap.size 5 w' (.slice A' n' c') (xs ++ [u8 l.length] ++ (l.take k').flatMap opB) [g12, g8, g6]) ∧ (n4 - IntKind.i64.wrap ((k : Int) + 1) : Int).toNat < (n4 - (k : Int) : Int).toNat := by
      intro A' n' c' w' G' ys hG r' hy
      subst hy
      refine ⟨⟨k + 1, by rw [wrap_in (by omega)]; rfl, hlt', ?_⟩, by rw [wrap_in (by omega)]; omega⟩
      rw [take_op l k hlt']
      have e : xs ++ [u8 l.length] ++ (l.take k).flatMap opB ++ [u8 l[k].kd] ++ idB l[k].s l[k].n ++ restB l[k] = xs ++ [u8 l.length] ++ ((l.take k).flatMap opB ++ opB l[k]) := by simp [opB]
      rw [← e]
      exact r'.less' hG
    have hP : (xs ++ [u8 l.length] ++ (l.take k).flatMap opB).length ≤ 60000 := by simp only [List.length_append, List.length_cons, List.length_nil]; omega
    generalize xs ++ [u8 l.length] ++ (l.take k).flatMap opB = P at r fin hP ⊢
    generalize l[k] = o1 at hc hg hid fin ⊢
    refine ⟨by omega, hlt, b, o, hA, _, _, _, _, _, _, _, _, _, _, _, _, _, _, _, _, _, _, _, _, hc, ?_⟩
    intro g42 hg42 w8 f8 b8 lo42 t42
    have r8 := r.on b8 [g42] (by simp only [List.mem_singleton]; rintro _ rfl; exact ⟨lo42, heap_lt t42⟩)
    refine ⟨_, Rw.tails r8, ?_⟩
    intro g44 hg44 w9 f9 b9 lo44 t44
    have r9 := r8.on b9 [g44] (by simp only [List.mem_singleton]; rintro _ rfl; exact ⟨lo44, heap_lt t44⟩)
    -- a byte is appended
    obtain ⟨w10, A45, n45, c45, hr45, m45, r45, g45, -⟩ := r9.append2 22 22 (.int .u8 0) 1 Tryd.underlying22 infoB1 rfl (arg_b [u8 o1.kd] 1 rfl _ (by rw [u8_wrap]; rfl) t44 (by omega)) (by simp; omega) (by simp; omega)
    refine ⟨w10, A45, n45, c45, hr45, m45, tail_keep g45 b9.size, ?_⟩
    have hP2 : (P ++ [u8 o1.kd]).length ≤ 60001 := by rw [one_len]; omega
    generalize hPe2 : P ++ [u8 o1.kd] = P2 at r45 fin hP2
    refine (ref01Put_c r45.sl (by have := r45.sl.len; omega) o1.s o1.n ⟨by omega, by omega⟩).mono ?_
    rintro e w11 ⟨A48, n49, c50, rfl, o11, b11⟩
    have r11 := Rw.fresh r45.fr r45.names o11 b11
    refine ⟨A48, n49, c50, rfl, ok_ret b11 r45.fr, ?_⟩
    have hP3 : (P2 ++ idB o1.s o1.n).length ≤ 60005 := by rw [List.length_append, idB_len]; omega
    generalize hPe3 : P2 ++ idB o1.s o1.n = P3 at r11 fin hP3
    refine ⟨fun h3 => ?_, fun h3 => ⟨fun h5 => ?_, fun h5 => ⟨fun h6 => ?_, fun h6 => ⟨fun h7 => ?_, fun h7 => ⟨fun h8 => ?_, fun h8 => ?_⟩⟩⟩⟩⟩
    · refine ⟨_, Rw.tails r11, fun w12 f12 b12 => ?_⟩
      have r12 := r11.below b12
      obtain ⟨k1, k2⟩ := hg.k3 h3
      have q1 := corner_iff k1
      have q2 := corner_iff k2
      -- a call that comes to a row
      refine (ref10corner_c r12.sl (by have hq := r12.sl.len; (try simp only [List.length_append, idB_len, List.length_cons, List.length_nil] at hq); omega) _ _ _ _ _ ⟨by omega, by omega⟩ ⟨by omega, by omega⟩ ⟨by omega, by omega⟩).mono ?_
      rintro e w13 ⟨A52, n52, c52, rfl, o52, b52⟩
      have r13 := Rw.fresh r12.fr r12.names o52 b52
      refine ⟨A52, n52, c52, rfl, ok_ret b52 r12.fr, keep_below b52 b12.size, ?_⟩
      have cl := cornB_len o1.a1 o1.a2 o1.a3 o1.a4 o1.a5
      -- a call that comes to a row
      refine (ref10corner_c r13.sl (by have hq := r13.sl.len; (try simp only [List.length_append, idB_len, List.length_cons, List.length_nil] at hq); omega) _ _ _ _ _ ⟨by omega, by omega⟩ ⟨by omega, by omega⟩ ⟨by omega, by omega⟩).mono ?_
      rintro e w14 ⟨A55, n55, c55, rfl, o55, b55⟩
      have r14 := Rw.fresh r13.fr r13.names o55 b55
      refine ⟨A55, n55, c55, rfl, ok_ret b55 r13.fr, ?_⟩
      -- the round's end
      refine fin _ _ _ _ _ _ ?_ (by have r' := r14; (try simp only [List.append_assoc] at r' ⊢); exact r') (by unfold restB; rw [if_pos h3])
      intro g hg; simp at hg ⊢; omega
    · obtain ⟨k1, k2, k3, k4⟩ := hg.k5 h5
      have q1 := idOk_iff k1
      have q2 := idOk_iff k2
      refine ⟨_, Rw.tails r11, fun w12 f12 b12 => ?_, fun g52 hg52 w12 f12 b12 lo52 t52 => ?_⟩
      · have r12 := r11.below b12
        -- a call that comes to a row
        refine (ref01Put_c r12.sl (by have hq := r12.sl.len; (try simp only [List.length_append, idB_len, List.length_cons, List.length_nil] at hq); omega) _ _ ⟨by omega, by omega⟩).mono ?_
        rintro e w13 ⟨A52, n52, c52, rfl, o52, b52⟩
        have r13 := Rw.fresh r12.fr r12.names o52 b52
        refine ⟨A52, n52, c52, rfl, ok_ret b52 r12.fr, keep_below b52 b12.size, ?_, fun g55 hg55 w14 f14 b14 lo55 t55 => ?_⟩
        · skip
          -- a call that comes to a row
          refine (ref01Put_c r13.sl (by have hq := r13.sl.len; (try simp only [List.length_append, idB_len, List.length_cons, List.length_nil] at hq); omega) _ _ ⟨by omega, by omega⟩).mono ?_
          rintro e w14 ⟨A55, n55, c55, rfl, o55, b55⟩
          have r14 := Rw.fresh r13.fr r13.names o55 b55
          refine ⟨A55, n55, c55, rfl, ok_ret b55 r13.fr, keep_below b55 (Nat.le_trans b12.size b52.size), fun g58 hg58 w15 f15 b15 lo58 t58 => ?_⟩
          have r15 := r14.on b15 [g58] (by simp only [List.mem_singleton]; rintro _ rfl; exact ⟨lo58, heap_lt t58⟩)
          -- a byte is appended
          obtain ⟨w16, A59, n59, c59, hr59, m59, r59, g59, -⟩ := r15.append2 22 22 (.int .u8 0) 1 Tryd.underlying22 infoB1 rfl (arg_b [u8 o1.nn] 1 rfl _ (by rw [u8_wrap]; rfl) t58 (by omega)) (by simp only [List.length_append, idB_len, List.length_cons, List.length_nil]; omega) (by simp only [List.length_append, idB_len, List.length_cons, List.length_nil]; omega)
          refine ⟨w16, A59, n59, c59, hr59, m59, ?_⟩
          -- the round's end
          refine fin _ _ _ _ _ _ ?_ (by have r' := r59; (try simp only [List.append_assoc] at r' ⊢); exact r') (by unfold restB; rw [if_neg h3, if_pos h5, List.append_assoc])
          intro g hg; simp at hg ⊢; omega
        · have r14 := r13.on b14 [g55] (by simp only [List.mem_singleton]; rintro _ rfl; exact ⟨lo55, heap_lt t55⟩)
          -- a call that comes to a row
          refine (ref01Put_c r14.sl (by have hq := r14.sl.len; (try simp only [List.length_append, idB_len, List.length_cons, List.length_nil] at hq); omega) _ _ ⟨by omega, by omega⟩).mono ?_
          rintro e w15 ⟨A56, n56, c56, rfl, o56, b56⟩
          have r15 := Rw.fresh r14.fr r14.names o56 b56
          refine ⟨A56, n56, c56, rfl, ok_ret b56 r14.fr, keep_below b56 (Nat.le_trans b12.size (Nat.le_trans b52.size b14.size)), fun t55' => ?_⟩
          -- a byte is appended
          obtain ⟨w16, A59, n59, c59, hr59, m59, r59, g59, -⟩ := r15.append2 22 22 (.int .u8 0) 1 Tryd.underlying22 infoB1 rfl (arg_b [u8 o1.nn] 1 rfl _ (by rw [u8_wrap]; rfl) t55' (by omega)) (by simp only [List.length_append, idB_len, List.length_cons, List.length_nil]; omega) (by simp only [List.length_append, idB_len, List.length_cons, List.length_nil]; omega)
          refine ⟨w16, A59, n59, c59, hr59, m59, ?_⟩
          -- the round's end
          refine fin _ _ _ _ _ _ ?_ (by have r' := r59; (try simp only [List.append_assoc] at r' ⊢); exact r') (by unfold restB; rw [if_neg h3, if_pos h5, List.append_assoc])
          intro g hg; simp at hg ⊢; omega
      · have r12 := r11.on b12 [g52] (by simp only [List.mem_singleton]; rintro _ rfl; exact ⟨lo52, heap_lt t52⟩)
        -- a call that comes to a row
        refine (ref01Put_c r12.sl (by have hq := r12.sl.len; (try simp only [List.length_append, idB_len, List.length_cons, List.length_nil] at hq); omega) _ _ ⟨by omega, by omega⟩).mono ?_
        rintro e w13 ⟨A53, n53, c53, rfl, o53, b53⟩
        have r13 := Rw.fresh r12.fr r12.names o53 b53
        refine ⟨A53, n53, c53, rfl, ok_ret b53 r12.fr, keep_below b53 b12.size, ?_⟩
        -- a call that comes to a row
        refine (ref01Put_c r13.sl (by have hq := r13.sl.len; (try simp only [List.length_append, idB_len, List.length_cons, List.length_nil] at hq); omega) _ _ ⟨by omega, by omega⟩).mono ?_
        rintro e w14 ⟨A56, n56, c56, rfl, o56, b56⟩
        have r14 := Rw.fresh r13.fr r13.names o56 b56
        refine ⟨A56, n56, c56, rfl, ok_ret b56 r13.fr, keep_below b56 (Nat.le_trans b12.size b53.size), fun t52' => ?_⟩
        -- a byte is appended
        obtain ⟨w15, A59, n59, c59, hr59, m59, r59, g59, -⟩ := r14.append2 22 22 (.int .u8 0) 1 Tryd.underlying22 infoB1 rfl (arg_b [u8 o1.nn] 1 rfl _ (by rw [u8_wrap]; rfl) t52' (by omega)) (by simp only [List.length_append, idB_len, List.length_cons, List.length_nil]; omega) (by simp only [List.length_append, idB_len, List.length_cons, List.length_nil]; omega)
        refine ⟨w15, A59, n59, c59, hr59, m59, ?_⟩
        -- the round's end
        refine fin _ _ _ _ _ _ ?_ (by have r' := r59; (try simp only [List.append_assoc] at r' ⊢); exact r') (by unfold restB; rw [if_neg h3, if_pos h5, List.append_assoc])
        intro g hg; simp at hg ⊢; omega
    · have q1 := idOk_iff (hg.k6 h6)
      -- a call that comes to a row
      refine (ref01Put_c r11.sl (by have hq := r11.sl.len; (try simp only [List.length_append, idB_len, List.length_cons, List.length_nil] at hq); omega) _ _ ⟨by omega, by omega⟩).mono ?_
      rintro e w12 ⟨A51, n51, c51, rfl, o51, b51⟩
      have r12 := Rw.fresh r11.fr r11.names o51 b51
      refine ⟨A51, n51, c51, rfl, ok_ret b51 r11.fr, ?_⟩
      -- the round's end
      refine fin _ _ _ _ _ _ ?_ (by have r' := r12; (try simp only [List.append_assoc] at r' ⊢); exact r') (by unfold restB; rw [if_neg h3, if_neg h5, if_pos h6])
      intro g hg; simp at hg ⊢; omega
    · refine ⟨_, Rw.tails r11, fun w12 f12 b12 => ?_⟩
      have r12 := r11.below b12
      refine (ref10flag_c w12 o1.oe).mono ?_
      rintro e w13 ⟨rfl, b13⟩
      have r13 := r12.below b13
      refine ⟨_, rfl, ok_ret b13 r12.fr, keep_below b13 b12.size, fun g53 hg53 w14 f14 b14 lo53 t53 => ?_⟩
      have r14 := r13.on b14 [g53] (by simp only [List.mem_singleton]; rintro _ rfl; exact ⟨lo53, heap_lt t53⟩)
      -- a byte is appended
      obtain ⟨w15, A54, n54, c54, hr54, m54, r54, g54, -⟩ := r14.append2 22 22 (.int .u8 0) 1 Tryd.underlying22 infoB1 rfl (arg_b [flagB o1.oe] 1 rfl _ rfl t53 (by omega)) (by simp only [List.length_append, idB_len, List.length_cons, List.length_nil]; omega) (by simp only [List.length_append, idB_len, List.length_cons, List.length_nil]; omega)
      refine ⟨w15, A54, n54, c54, hr54, m54, tail_keep g54 (Nat.le_trans b12.size (Nat.le_trans b13.size b14.size)), ?_⟩
      -- a call that comes to a row
      refine (ref08Text_c r54.sl (by have hq := r54.sl.len; (try simp only [List.length_append, idB_len, List.length_cons, List.length_nil] at hq); omega) o1.tx (by have := label_size (hg.k7 h7); omega)).mono ?_
      rintro e w16 ⟨A57, n57, c57, rfl, o57, b57⟩
      have r16 := Rw.fresh r54.fr r54.names o57 b57
      refine ⟨A57, n57, c57, rfl, ok_ret b57 r54.fr, ?_⟩
      -- the round's end
      refine fin _ _ _ _ _ _ ?_ (by have r' := r16; (try simp only [List.append_assoc] at r' ⊢); exact r') (by unfold restB; rw [if_neg h3, if_neg h5, if_neg h6, if_pos h7]; rfl)
      intro g hg; simp at hg ⊢; omega
    · refine ⟨_, Rw.tails r11, fun w12 f12 b12 => ?_⟩
      have r12 := r11.below b12
      refine (ref10flag_c w12 o1.oe).mono ?_
      rintro e w13 ⟨rfl, b13⟩
      have r13 := r12.below b13
      refine ⟨_, rfl, ok_ret b13 r12.fr, keep_below b13 b12.size, fun g53 hg53 w14 f14 b14 lo53 t53 => ?_⟩
      have r14 := r13.on b14 [g53] (by simp only [List.mem_singleton]; rintro _ rfl; exact ⟨lo53, heap_lt t53⟩)
      -- a byte is appended
      obtain ⟨w15, A54, n54, c54, hr54, m54, r54, g54, -⟩ := r14.append2 22 22 (.int .u8 0) 1 Tryd.underlying22 infoB1 rfl (arg_b [flagB o1.oe] 1 rfl _ rfl t53 (by omega)) (by simp only [List.length_append, idB_len, List.length_cons, List.length_nil]; omega) (by simp only [List.length_append, idB_len, List.length_cons, List.length_nil]; omega)
      refine ⟨w15, A54, n54, c54, hr54, m54, tail_keep g54 (Nat.le_trans b12.size (Nat.le_trans b13.size b14.size)), ?_⟩
      -- a call that comes to a row
      refine (ref08Num_c r54.sl (by have hq := r54.sl.len; (try simp only [List.length_append, idB_len, List.length_cons, List.length_nil] at hq); omega) o1.nn).mono ?_
      rintro e w16 ⟨A57, n57, c57, rfl, o57, b57⟩
      have r16 := Rw.fresh r54.fr r54.names o57 b57
      refine ⟨A57, n57, c57, rfl, ok_ret b57 r54.fr, ?_⟩
      -- the round's end
      refine fin _ _ _ _ _ _ ?_ (by have r' := r16; (try simp only [List.append_assoc] at r' ⊢); exact r') (by unfold restB; rw [if_neg h3, if_neg h5, if_neg h6, if_neg h7, if_pos h8]; rfl)
      intro g hg; simp at hg ⊢; omega
    · refine fin A48 n49 c50 w11 _ [] ?_ (by simpa using r11) (by unfold restB; rw [if_neg h3, if_neg h5, if_neg h6, if_neg h7, if_neg h8])
      intro g hg; simp at hg ⊢; omega
  · rw [hpv]
    refine Rw.retB r ?_
    rw [List.take_of_length_le (by omega)]
    simp [editB]
end Go.Proofs.YtfjenamomipmdaaDoor
