/- Opcode: the reader takes an operation, an edit. -/
import Derived.Test.YtfjenamomipmdaaDoorOcU
set_option linter.unusedSimpArgs false
set_option linter.unusedVariables false
namespace Go.Proofs.YtfjenamomipmdaaDoor
open Go Go.RowKit Go.Proofs Go.Trc Go.Sx
def opK3 (k : Int) (i : Int × Int) (a b : Crn × RS) : OpV × RS := ({ OpV.zero with kd := k, s := i.1, n := i.2, a1 := a.1.1, a2 := a.1.2.1, a3 := a.1.2.2.1, a4 := a.1.2.2.2.1, a5 := a.1.2.2.2.2, b1 := b.1.1, b2 := b.1.2.1, b3 := b.1.2.2.1, b4 := b.1.2.2.2.1, b5 := b.1.2.2.2.2 }, b.2)
def opK5 (k : Int) (i : Int × Int) (a b : (Int × Int) × RS) (n : Int × RS) : OpV × RS := ({ OpV.zero with kd := k, s := i.1, n := i.2, s1 := a.1.1, n1 := a.1.2, s2 := b.1.1, n2 := b.1.2, nn := n.1 }, n.2)
def opK6 (k : Int) (i : Int × Int) (a : (Int × Int) × RS) : OpV × RS := ({ OpV.zero with kd := k, s := i.1, n := i.2, s2 := a.1.1, n2 := a.1.2 }, a.2)
def opK7 (k : Int) (i : Int × Int) (f : Int) (t : ByteArray × RS) : OpV × RS := ({ OpV.zero with kd := k, s := i.1, n := i.2, oe := f == 1, tx := t.1 }, t.2)
def opK8 (k : Int) (i : Int × Int) (f : Int) (t : Int × RS) : OpV × RS := ({ OpV.zero with kd := k, s := i.1, n := i.2, oe := f == 1, nn := t.1 }, t.2)
def opK0 (k : Int) (i : Int × Int) (s : RS) : OpV × RS := ({ OpV.zero with kd := k, s := i.1, n := i.2 }, s)
def opK (k : Int) (i : Int × Int) (s : RS) : OpV × RS :=
  if k = 3 then opK3 k i (cornR s) (cornR (cornR s).2)
  else if k = 5 then opK5 k i (idR s) (idR (idR s).2) (takenV (uptoV 3) (idR (idR s).2).2)
  else if k = 6 then opK6 k i (idR s)
  else if k = 7 then opK7 k i (takenV (uptoV 1) s).1 (takenV textV (takenV (uptoV 1) s).2)
  else if k = 8 then opK8 k i (takenV (uptoV 1) s).1 (takenV numV (takenV (uptoV 1) s).2)
  else opK0 k i s
def opR (s : RS) : OpV × RS := opK (takenV (uptoV 8) s).1 (idR (takenV (uptoV 8) s).2).1 (idR (takenV (uptoV 8) s).2).2
set_option maxHeartbeats 4000000 in
theorem rop_c {w : World} {B g : Nat} {s : RS} (h : Rdr w B g 88 s) : Calls Tryd.prog 47 #[.pointer (some ⟨g, 0, none⟩)] w (TR w B g 88 encO (opR s)) := by
  have lg := h.lt
  have hB := h.1
  refine rop_sx _ (fun b => b ∈ [g]) w _ ?_
  intro g1 hg1 w1 f1 b1 lo1 t1
  refine (upto_c w1 8).mono ?_
  rintro e w2 ⟨g0, lo0, rfl, t0, b2⟩
  refine ⟨_, rfl, ok_ret b2 f1, ?_⟩
  refine (take_upto (m := 8) ((h.below b1).below b2) t0).mono ?_
  rintro e w3 ⟨rfl, r3, q3⟩
  have f3 := (tr_ok (G := []) (f1.step b2) q3 (by simp)).1
  refine ⟨_, rfl, tr_ok (f1.step b2) q3 (by simp; omega), fun g4 hg4 w4 f4 b4 lo4 t4 => ?_⟩
  have e0 : opR s = opK (takenV (uptoV 8) s).1 (idR (takenV (uptoV 8) s).2).1 (idR (takenV (uptoV 8) s).2).2 := rfl
  rw [e0]
  generalize takenV (uptoV 8) s = K at r3 ⊢
  refine (rid_c (r3.below b4)).mono ?_
  rintro e w5 ⟨rfl, r5, q5⟩
  have f5 := (tr_ok (G := []) f4 q5 (by simp)).1
  refine ⟨_, _, rfl, tr_ok f4 q5 (by simp; omega), ?_⟩
  generalize idR K.2 = I at r5 ⊢
  refine ⟨fun h3 w6 f6 q6 => ?_, fun h3 => ⟨fun h5 w6 f6 q6 => ?_, fun h5 => ⟨fun h6 w6 f6 q6 => ?_, fun h6 => ⟨fun h7 w6 f6 q6 => ?_, fun h7 => ⟨fun h8 w6 f6 q6 => ?_, fun h8 w6 f6 q6 => ?_⟩⟩⟩⟩⟩
  · have h3 : K.1 = 3 := h3
    have r6 := r5.past q6 (by simp; omega)
    refine (rcorner_c r6).mono ?_
    rintro e w7 ⟨rfl, r7, q7⟩
    refine ⟨_, _, _, _, _, rfl, tr_ok f6 q7 (by simp; omega), fun w8 f8 q8 => ?_⟩
    refine (rcorner_c (r7.past q8 (by simp; omega))).mono ?_
    rintro e w9 ⟨rfl, r9, q9⟩
    refine ⟨_, _, _, _, _, rfl, tr_ok f8 q9 (by simp; omega), fun w10 f10 q10 => ?_⟩
    unfold opK; rw [if_pos h3]
    exact ⟨rfl, r9.past q10 (by simp; omega), f10⟩
  · have h3 : ¬ K.1 = 3 := h3
    have h5 : K.1 = 5 := h5
    refine (rid_c (r5.past q6 (by simp; omega))).mono ?_
    rintro e w7 ⟨rfl, r7, q7⟩
    refine ⟨_, _, rfl, tr_ok f6 q7 (by simp; omega), fun w8 f8 q8 => ?_⟩
    refine (rid_c (r7.past q8 (by simp; omega))).mono ?_
    rintro e w9 ⟨rfl, r9, q9⟩
    refine ⟨_, _, rfl, tr_ok f8 q9 (by simp; omega), fun w10 f10 q10 => ?_⟩
    refine (upto_c w10 3).mono ?_
    rintro e w11 ⟨g5, lo5, rfl, t5, b11⟩
    refine ⟨_, rfl, ok_ret b11 f10, ?_⟩
    refine (take_upto (m := 3) ((r9.past q10 (by simp; omega)).below b11) t5).mono ?_
    rintro e w12 ⟨rfl, r12, q12⟩
    refine ⟨_, rfl, tr_ok (f10.step b11) q12 (by simp; omega), fun w13 f13 q13 => ?_⟩
    unfold opK; rw [if_neg h3, if_pos h5]
    exact ⟨rfl, r12.past q13 (by simp; omega), f13⟩
  · have h3 : ¬ K.1 = 3 := h3
    have h5 : ¬ K.1 = 5 := h5
    have h6 : K.1 = 6 := h6
    refine (rid_c (r5.past q6 (by simp; omega))).mono ?_
    rintro e w7 ⟨rfl, r7, q7⟩
    refine ⟨_, _, rfl, tr_ok f6 q7 (by simp; omega), fun w8 f8 q8 => ?_⟩
    unfold opK; rw [if_neg h3, if_neg h5, if_pos h6]
    exact ⟨rfl, r7.past q8 (by simp; omega), f8⟩
  · have h3 : ¬ K.1 = 3 := h3
    have h5 : ¬ K.1 = 5 := h5
    have h6 : ¬ K.1 = 6 := h6
    have h7 : K.1 = 7 := h7
    refine (upto_c w6 1).mono ?_
    rintro e w7 ⟨g5, lo5, rfl, t5, b7⟩
    refine ⟨_, rfl, ok_ret b7 f6, ?_⟩
    refine (take_upto (m := 1) ((r5.past q6 (by simp; omega)).below b7) t5).mono ?_
    rintro e w8 ⟨rfl, r8, q8⟩
    refine ⟨_, rfl, tr_ok (f6.step b7) q8 (by simp; omega), fun w9 f9 q9 => ?_⟩
    refine (takenStr_c (r8.past q9 (by simp; omega)) _ _ (taker_text w9 B)).mono ?_
    rintro e w10 ⟨rfl, r10, q10⟩
    refine ⟨_, rfl, tr_ok f9 q10 (by simp; omega), fun w11 f11 q11 => ?_⟩
    unfold opK; rw [if_neg h3, if_neg h5, if_neg h6, if_pos h7]
    exact ⟨rfl, r10.past q11 (by simp; omega), f11⟩
  · have h3 : ¬ K.1 = 3 := h3
    have h5 : ¬ K.1 = 5 := h5
    have h6 : ¬ K.1 = 6 := h6
    have h7 : ¬ K.1 = 7 := h7
    have h8 : K.1 = 8 := h8
    refine (upto_c w6 1).mono ?_
    rintro e w7 ⟨g5, lo5, rfl, t5, b7⟩
    refine ⟨_, rfl, ok_ret b7 f6, ?_⟩
    refine (take_upto (m := 1) ((r5.past q6 (by simp; omega)).below b7) t5).mono ?_
    rintro e w8 ⟨rfl, r8, q8⟩
    refine ⟨_, rfl, tr_ok (f6.step b7) q8 (by simp; omega), fun w9 f9 q9 => ?_⟩
    refine (takenInt_c (r8.past q9 (by simp; omega)) _ _ (taker_num w9 B)).mono ?_
    rintro e w10 ⟨rfl, r10, q10⟩
    refine ⟨_, rfl, tr_ok f9 q10 (by simp; omega), fun w11 f11 q11 => ?_⟩
    unfold opK; rw [if_neg h3, if_neg h5, if_neg h6, if_neg h7, if_pos h8]
    exact ⟨rfl, r10.past q11 (by simp; omega), f11⟩
  · have h3 : ¬ K.1 = 3 := h3
    have h5 : ¬ K.1 = 5 := h5
    have h6 : ¬ K.1 = 6 := h6
    have h7 : ¬ K.1 = 7 := h7
    have h8 : ¬ K.1 = 8 := h8
    unfold opK; rw [if_neg h3, if_neg h5, if_neg h6, if_neg h7, if_neg h8]
    exact ⟨rfl, r5.past q6 (by simp; omega), f6⟩
end Go.Proofs.YtfjenamomipmdaaDoor
