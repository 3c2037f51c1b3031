/- Frames: contracts of what lays bytes. -/
import Derived.Test.YtdjjfpcfclheiaaFrB
set_option linter.unusedSimpArgs false
set_option linter.unusedVariables false
namespace Go.Proofs.Ytdjjfpcfclheiaa.Frm
open Go Go.RowKit Go.Proofs Go.Trc Go.Sx
set_option maxRecDepth 10000

/-- The low byte. -/
def u8 (y : Int) : UInt8 := UInt8.ofNat (y % 256).toNat
theorem u8_wrap (y : Int) : IntKind.u8.wrap y = ((u8 y).toNat : Int) := by
  have h0 := Int.emod_nonneg y (by decide : (256 : Int) ≠ 0)
  have h1 := Int.emod_lt_of_pos y (by decide : (0 : Int) < 256)
  have e1 : IntKind.u8.wrap y = y % 256 := by simp [IntKind.wrap, IntKind.bits, IntKind.signed]
  have e2 : (u8 y).toNat = (y % 256).toNat := by
    unfold u8
    rw [UInt8.toNat_ofNat']
    omega
  rw [e1, e2]
  omega
def fourV (x : Int) : List UInt8 := [u8 (x.fdiv (2 ^ 24)), u8 (x.fdiv (2 ^ 16)), u8 (x.fdiv (2 ^ 8)), u8 (x.fdiv (2 ^ 0))]
theorem arg_bytes {w : World} {g : Nat} {t : TypeId} (xs : List UInt8) (n : Nat) (hn : n = xs.length) (hm : n ≤ maxLen) (h : w.heap[g]? = some (.cells (xs.map fun x => Value.int .u8 (x.toNat : Int)).toArray t (0, 0))) :
    Arg w (fun _ => True) (.slice (some ⟨g, 0, none⟩) n n) xs :=
  ((OwnF.bytes (base := 0) xs n hn (Nat.zero_le _) h hm).to (fun _ _ => trivial)).arg
theorem arg1 {w : World} {g : Nat} {t : TypeId} {y : Int} (h : w.heap[g]? = some (.cells #[.int .u8 (IntKind.u8.wrap y)] t (0, 0))) : Arg w (fun _ => True) (.slice (some ⟨g, 0, none⟩) 1 1) [u8 y] :=
  arg_bytes [u8 y] 1 rfl (by decide) (by rw [u8_wrap] at h; exact h)

theorem Rw.start {v : Value} {w : World} {base : Nat} {e : TypeId} {xs : List UInt8} (h : OwnF w base e v xs) (hb : base ≤ w.heap.size) : Rw (tail v) w base e w v xs [] :=
  ⟨h, Fr.refl _ _, fun k hk => ⟨.inl hk.symm, by simp⟩, by simp, hb⟩

set_option maxHeartbeats 1000000 in
theorem four_c {w : World} {base : Nat} {A : Option Addr} {n c : Nat} {xs : List UInt8} (x : Int) (h : OwnF w base 5 (.slice A n c) xs) (hb : base ≤ w.heap.size) (hl : xs.length + 4 ≤ 140737488355328) :
    Calls Try.prog 64 #[.slice A n c, .int .u32 x] w (Grew base 5 w (.slice A n c) (xs ++ fourV x)) := by
  refine four_sx _ (fun b => some b = tail (.slice A n c)) w A n c x ?_
  have r0 := Rw.start h hb
  intro g4 hg4 w1 f1 b1 hlo t4
  have r1 := r0.on b1 [g4] (by simp only [List.mem_singleton]; rintro _ rfl; exact ⟨hg4, heap_lt t4⟩)
  obtain ⟨w2, A2, n2, c2, hr2, m2, r2⟩ := r1.append 45 45 (.int .u8 0) 1 Try.underlying45 (by kernel_rfl) rfl (arg1 t4) (by simp only [List.length_append, List.length_singleton]; omega) (by simp only [List.length_append, List.length_singleton]; omega)
  refine ⟨w2, A2, n2, c2, hr2, m2, ?_⟩
  intro g8 hg8 w3 f3 b3 hlo8 t8
  have r3 := r2.on b3 [g8] (by simp only [List.mem_singleton]; rintro _ rfl; exact ⟨hlo8, heap_lt t8⟩)
  obtain ⟨w4, A4, n4, c4, hr4, m4, r4⟩ := r3.append 45 45 (.int .u8 0) 1 Try.underlying45 (by kernel_rfl) rfl (arg1 t8) (by simp only [List.length_append, List.length_singleton]; omega) (by simp only [List.length_append, List.length_singleton]; omega)
  refine ⟨w4, A4, n4, c4, hr4, m4, ?_⟩
  intro g12 hg12 w5 f5 b5 hlo12 t12
  have r5 := r4.on b5 [g12] (by simp only [List.mem_singleton]; rintro _ rfl; exact ⟨hlo12, heap_lt t12⟩)
  obtain ⟨w6, A6, n6, c6, hr6, m6, r6⟩ := r5.append 45 45 (.int .u8 0) 1 Try.underlying45 (by kernel_rfl) rfl (arg1 t12) (by simp only [List.length_append, List.length_singleton]; omega) (by simp only [List.length_append, List.length_singleton]; omega)
  refine ⟨w6, A6, n6, c6, hr6, m6, ?_⟩
  intro g16 hg16 w7 f7 b7 hlo16 t16
  have r7 := r6.on b7 [g16] (by simp only [List.mem_singleton]; rintro _ rfl; exact ⟨hlo16, heap_lt t16⟩)
  obtain ⟨w8, A8, n8, c8, hr8, m8, r8⟩ := r7.append 45 45 (.int .u8 0) 1 Try.underlying45 (by kernel_rfl) rfl (arg1 t16) (by simp only [List.length_append, List.length_singleton]; omega) (by simp only [List.length_append, List.length_singleton]; omega)
  refine ⟨w8, A8, n8, c8, hr8, m8, ?_⟩
  have := r8.done
  rw [show xs ++ [u8 (x.fdiv (2 ^ 24))] ++ [u8 (x.fdiv (2 ^ 16))] ++ [u8 (x.fdiv (2 ^ 8))] ++ [u8 (x.fdiv (2 ^ 0))] = xs ++ fourV x by simp [fourV]] at this
  exact this

theorem fdiv_nn {x : Int} (h : 0 ≤ x) (k : Nat) : x.fdiv (2 ^ k) = x / 2 ^ k := Int.fdiv_eq_ediv_of_nonneg _ (Int.pow_nonneg (by decide))
theorem refFour_bytes {x : Int} (h : 0 ≤ x ∧ x < 4294967296) : [Value.int .u8 (IntKind.u8.wrap (IntKind.i64.wrap (Int.tdiv x (16777216 : Int)))), .int .u8 (IntKind.u8.wrap (Int.tmod (IntKind.i64.wrap (Int.tdiv x (65536 : Int))) (256 : Int))),
      .int .u8 (IntKind.u8.wrap (Int.tmod (IntKind.i64.wrap (Int.tdiv x (256 : Int))) (256 : Int))), .int .u8 (IntKind.u8.wrap (Int.tmod x (256 : Int)))] = (fourV x).map fun b => Value.int .u8 (b.toNat : Int) := by
  have hw : ∀ y : Int, u8 (y % 256) = u8 y := fun y => by unfold u8; rw [Int.emod_emod_of_dvd _ (Int.dvd_refl _)]
  have e1 : IntKind.i64.wrap (Int.tdiv x (16777216 : Int)) = x.fdiv (2 ^ 24) := by
    rw [fdiv_nn h.1, Int.tdiv_eq_ediv_of_nonneg h.1, wrap_in (by omega)]; rfl
  have e2 : Int.tmod (IntKind.i64.wrap (Int.tdiv x (65536 : Int))) (256 : Int) = x.fdiv (2 ^ 16) % 256 := by
    rw [fdiv_nn h.1, Int.tdiv_eq_ediv_of_nonneg h.1, wrap_in (by omega), Int.tmod_eq_emod_of_nonneg (by omega)]; rfl
  have e3 : Int.tmod (IntKind.i64.wrap (Int.tdiv x (256 : Int))) (256 : Int) = x.fdiv (2 ^ 8) % 256 := by
    rw [fdiv_nn h.1, Int.tdiv_eq_ediv_of_nonneg h.1, wrap_in (by omega), Int.tmod_eq_emod_of_nonneg (by omega)]; rfl
  have e4 : Int.tmod x (256 : Int) = x.fdiv (2 ^ 0) % 256 := by
    rw [fdiv_nn h.1, Int.tmod_eq_emod_of_nonneg (by omega)]; simp
  rw [e1, e2, e3, e4]
  simp only [u8_wrap, hw]
  rfl

set_option maxHeartbeats 1000000 in
theorem refFour_c {w : World} {base : Nat} {A : Option Addr} {n c : Nat} {xs : List UInt8} (x : Int) (hx : 0 ≤ x ∧ x < 4294967296) (h : OwnF w base 5 (.slice A n c) xs) (hb : base ≤ w.heap.size) (hl : xs.length + 4 ≤ 140737488355328) :
    Calls Try.prog 80 #[.slice A n c, .int .i64 x] w (Grew base 5 w (.slice A n c) (xs ++ fourV x)) := by
  refine refFour_sx _ (fun b => some b = tail (.slice A n c)) w A n c x ⟨by decide, by decide, by decide, by decide, by decide, by decide, ?_⟩
  have r0 := Rw.start h hb
  intro g4 hg4 w1 f1 b1 hlo t4
  have r1 := r0.on b1 [g4] (by simp only [List.mem_singleton]; rintro _ rfl; exact ⟨hg4, heap_lt t4⟩)
  have t4 : w1.heap[g4]? = some (.cells ((fourV x).map fun b => Value.int .u8 (b.toNat : Int)).toArray 5 (0, 0)) := by rw [← refFour_bytes hx]; exact t4
  obtain ⟨w2, A2, n2, c2, hr2, m2, r2⟩ := r1.append 45 45 (.int .u8 0) 1 Try.underlying45 (by kernel_rfl) rfl (arg_bytes (fourV x) 4 rfl (by decide) t4) (by show (xs.length + 4) * 1 ≤ _; omega) (by show xs.length + 4 ≤ _; omega)
  exact ⟨w2, A2, n2, c2, hr2, m2, r2.done⟩

theorem rev_mid (xs ys : List UInt8) (i j : Nat) (hl : ys.length = xs.length) (hij : i + j + 1 = xs.length) (hle : j ≤ i) (h : ∀ k (hk : k < ys.length), ys[k] = if k < i ∨ j < k then xs[xs.length - 1 - k]'(by omega) else xs[k]'(by omega)) : ys = xs.reverse := by
  refine List.ext_getElem (by simpa using hl) fun k h1 h2 => ?_
  rw [h k h1, List.getElem_reverse]
  split
  · rfl
  · congr 1; omega

set_option maxHeartbeats 2000000 in
theorem reverse_c {w : World} {base g n c : Nat} {xs : List UInt8} (h : OwnF w base 5 (.slice (some ⟨g, 0, none⟩) n c) xs) (hp : 0 < n) :
    Calls Try.prog 66 #[.slice (some ⟨g, 0, none⟩) n c] w fun e w' => e = .returned (.tuple #[]) ∧ OwnF w' base 5 (.slice (some ⟨g, 0, none⟩) n c) xs.reverse ∧ w.grownBy w' (some g) := by
  have hsl := h.to (ok := fun _ => True) fun _ _ => trivial
  have hn := hsl.len
  have hle := hsl.le
  refine reverse_sx _ (fun b => some b = some g) w _ n c ?_
  rw [wrap_in (by omega)]
  refine ⟨fun i3 i4 w1 => ∃ (i j : Nat) (ys : List UInt8), i3 = i ∧ i4 = j ∧ i + j + 1 = n ∧ i ≤ j + 1 ∧ ∃ hl : ys.length = xs.length, (∀ k (hk : k < ys.length), ys[k] = if k < i ∨ j < k then xs[xs.length - 1 - k]'(by omega) else xs[k]'(by omega)) ∧
      OwnF w1 base 5 (.slice (some ⟨g, 0, none⟩) n c) ys ∧ w.grownBy w1 (some g), fun i3 i4 _ => (i4 + 1 - i3).toNat, ⟨0, n - 1, xs, rfl, by omega, by omega, by omega, rfl, fun k hk => ?_, h, World.grownBy.refl _ _⟩, ?_⟩
  · rw [if_neg (by omega)]
  rintro _ _ w1 f1 ⟨i, j, ys, rfl, rfl, hij, hij2, hl, hys, ho, hg⟩
  refine ⟨fun hlt => ?_, fun hge => ?_⟩
  · have hsl1 := ho.to (ok := fun _ => True) fun _ _ => trivial
    have hi : i < ys.length := by omega
    have hj : j < ys.length := by omega
    refine ⟨by omega, by omega, g, 0, rfl, fun w2 f2 b2 => ?_⟩
    have o2 : OwnF w2 base 5 (.slice (some ⟨g, 0, none⟩) n c) ys := ho.below b2
    have hsl2 := o2.to (ok := fun _ => True) fun _ _ => trivial
    obtain ⟨b', o', e1, -, cs1, hcs1, hat1⟩ := hsl2.elem j hj
    injection e1 with e1; injection e1 with e1 e2; subst e1; subst e2
    obtain ⟨b', o', e1, -, cs2, hcs2, hat2⟩ := hsl2.elem i hi
    injection e1 with e1; injection e1 with e1 e2; subst e1; subst e2
    have hcs1' : cs1 = [.int .u8 (ys[j].toNat : Int)] := hcs1
    have hcs2' : cs2 = [.int .u8 (ys[i].toNat : Int)] := hcs2
    subst hcs1'; subst hcs2'
    have hgl : g < w1.heap.size := (ho.lt g rfl).2
    refine ⟨(ys[j].toNat : Int), hat1, ⟨hgl, by simp⟩, by omega, by omega, g, 0, rfl, (ys[i].toNat : Int), hat2, ⟨hgl, by simp⟩, by omega, by omega, g, 0, rfl, ?_⟩
    obtain ⟨w3, hr3, o3, g3⟩ := own_set_byte (P := Try.prog) (t := 5) rfl rfl o2 i hi ys[j]
    obtain ⟨w4, hr4, o4, g4⟩ := own_set_byte (P := Try.prog) (t := 5) rfl rfl o3 j (by rw [List.length_set]; exact hj) ys[i]
    have q2 := hg.trans (grown_of_below b2 (some g))
    have q3 := q2.trans g3
    have q4 := q3.trans g4
    refine ⟨w3, ?_, ⟨fr_grown q3, mild_nil g3.size⟩, by omega, by omega, g, 0, rfl, w4, ?_, ⟨fr_grown q4, mild_nil g4.size⟩, ⟨i + 1, j - 1, _, ?_, ?_, by omega, by omega, ?_, ?_, o4, q4⟩, ?_⟩
    · simpa using hr3
    · simpa using hr4
    · rw [wrap_in (by omega)]; rfl
    · rw [wrap_in (by omega)]; omega
    · simp [hl]
    · intro k hk
      simp only [List.length_set] at hk
      have hk0 := hys k hk
      have hi0 := hys i hi
      have hj0 := hys j hj
      simp only [List.getElem_set]
      by_cases hkj : j = k
      · subst hkj
        rw [if_pos rfl, if_pos (by omega)]
        refine hi0.trans ?_
        rw [if_neg (by omega)]
        congr 1; omega
      · rw [if_neg hkj]
        by_cases hki : i = k
        · subst hki
          rw [if_pos rfl, if_pos (by omega)]
          refine hj0.trans ?_
          rw [if_neg (by omega)]
          congr 1; omega
        · rw [if_neg hki]
          refine hk0.trans ?_
          by_cases hc : k < i ∨ j < k
          · rw [if_pos hc, if_pos (by omega)]
          · rw [if_neg hc, if_neg (by omega)]
    · dsimp only
      rw [wrap_in (by omega), wrap_in (by omega)]
      omega
  · refine ⟨rfl, ?_, hg⟩
    rw [← rev_mid xs ys i j hl (by omega) (by omega) hys]
    exact ho
end Go.Proofs.Ytdjjfpcfclheiaa.Frm
