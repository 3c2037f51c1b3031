/- Net: rows made anew: their block's type; what package slices does on them. -/
import Derived.Test.YtdjjfpcfclheiaaNetA
import Derived.Test.YtdjjfpcfclheiaaNetX
import Derived.Lib.AppendZeros
set_option linter.unusedSimpArgs false
set_option linter.unusedVariables false
namespace Go.Trc
open Go Go.RowKit Go.Sx
theorem append_full_heap {α : Type} [Rep α] {P : Program} {w : World} (t ty e : TypeId) (i : TypeInfo) (z : Value) (bytes : Nat)
    (ht : P.underlying t = some (.slice e)) (hi : P.info? e = some i) (hz : i.zero = some z) (hsize : i.size = Rep.sz α) (hby : i.bytes = bytes) (hzs : z.cells.size = Rep.sz α)
    {ok1 ok2 : Nat → Prop} {A : Option Addr} {v2 : Value} {xs ys : List α}
    (h1 : Sl w ok1 (.slice A xs.length xs.length) xs) (h2 : Arg w ok2 v2 ys) (hy : 0 < ys.length)
    (hbytes : (xs.length + ys.length) * bytes ≤ 140737488355328) (hlen : xs.length + ys.length ≤ 9223372036854775807) :
    ∃ v' C, (Builtin.append_ #[t, t] ty #[.slice A xs.length xs.length, v2]).run P w = .ok v' (w.drew.alloc (.cells C e)) := by
  obtain ⟨A2, c2, rfl, b4⟩ := h2
  obtain ⟨gb, go, rfl, hc2⟩ := b4 hy
  obtain ⟨cs2, l2, r2, o2, k2⟩ := hc2.flat
  obtain ⟨A1, c1, he, a1, a2, a3, a4⟩ := h1
  injection he with e1 e2 e3
  subst e1
  have hn2 : ∀ j u, cs2[j]? = some u → w.cell? ((⟨gb, go, none⟩ : Addr).add j) = some u := fun j u hu => by rw [add_plain]; exact r2 j u hu
  rcases A with _ | a
  · have hx0 : xs.length = 0 := by have := a3 rfl; omega
    obtain rfl : xs = [] := List.eq_nil_of_length_eq_zero hx0
    have hr := run_append_nil (P := P) w t ty e i z ht hi hz ⟨gb, go, none⟩ ys.length c2 cs2 (by rw [l2, hsize]) hn2 hy (by simp at hlen; omega) (by rw [hby]; simp at hbytes; omega)
    exact ⟨_, _, by simpa using hr⟩
  · have holds : ∃ cs1 : List Value, cs1.length = xs.length * Rep.sz α ∧ ∀ j u, cs1[j]? = some u → w.cell? (a.add j) = some u := by
      by_cases hx : 0 < xs.length
      · obtain ⟨b, o, hA, _, hc⟩ := a4 hx
        injection hA with hA
        subst hA
        obtain ⟨cs1, l1, r1, o1, k1⟩ := hc.flat
        exact ⟨cs1, l1, fun j u hu => by rw [add_plain]; exact r1 j u hu⟩
      · have hx0 : xs.length = 0 := by omega
        exact ⟨[], by simp [hx0], by simp⟩
    obtain ⟨cs1, l1, r1⟩ := holds
    exact ⟨_, _, run_append_grow (P := P) w t ty e i z ht hi hz a xs.length xs.length cs1 (by rw [l1, hsize]) r1 ⟨gb, go, none⟩ ys.length c2 cs2 (by rw [l2, hsize]) hn2 (by omega) (by omega) (growslice_fits (by omega) (by rw [hby]; exact hbytes))⟩
/-- Appended to what is full: a row anew. -/
theorem app_full {α : Type} [Rep α] [Flat α] {P : Program} {w : World} (t ty e : TypeId) (z : Value) (bytes : Nat) (ht : P.underlying t = some (.slice e))
    (hinfo : (P.info? e).map (fun i => (i.zero, i.size, i.bytes)) = some (some z, Rep.sz α, bytes)) (hzs : z.cells.size = Rep.sz α)
    {ok1 ok2 : Nat → Prop} {A : Option Addr} {n : Nat} {v2 : Value} {xs ys : List α} (h1 : Sl w ok1 (.slice A n n) xs) (h2 : Arg w ok2 v2 ys) (hy : 0 < ys.length)
    (hbytes : (xs.length + ys.length) * bytes ≤ 140737488355328) (hlen : xs.length + ys.length ≤ 9223372036854775807) :
    ∃ w' A' n' c' C, (Builtin.append_ #[t, t] ty #[.slice A n n, v2]).run P w = .ok (.slice A' n' c') w' ∧ Sl w' (fun b => b = w.heap.size) (.slice A' n' c') (xs ++ ys) ∧ Below w.heap.size w w' ∧ w'.heap[w.heap.size]? = some (.cells C e (0, 0)) := by
  have hn := h1.len_eq.1
  subst hn
  obtain ⟨i, hi, hz, hsz, hby⟩ := info_parts hinfo
  obtain ⟨v', w', hr, s, b, -⟩ := append_full (P := P) (α := α) (ok' := fun b => b = w.heap.size) t ty e i z bytes ht hi hz hsz hby hzs h1 h2 (.inr hy) rfl (fun _ _ h => Flat.flat h) (fun _ _ h => Flat.flat h) hbytes hlen
  obtain ⟨v'', C, hr'⟩ := append_full_heap (P := P) (α := α) t ty e i z bytes ht hi hz hsz hby hzs h1 h2 hy hbytes hlen
  obtain ⟨A', c', rfl, _⟩ := id s
  rw [hr] at hr'
  injection hr' with e1 e2
  refine ⟨w', A', _, c', C, hr, s, b, ?_⟩
  rw [e2]
  exact heap_alloc_new w.drew _
theorem run_clip {P : Program} (t e : TypeId) (hu : P.underlying t = some (.slice e)) {i : TypeInfo} (hi : P.info? e = some i) {α : Type} [Rep α] {w : World} {ok : Nat → Prop} {A : Option Addr} {n c : Nat} {xs : List α} (h : Sl w ok (.slice A n c) xs) (w' : World) :
    (Instr.sliceAt t (.slice A n c) none (some (.int .i64 (n : Int))) (some (.int .i64 (n : Int)))).run P w' = .ok (.slice A n n) w' ∧ Sl w ok (.slice A n n) xs := by
  have hn := h.len_eq
  have h0 : (0 : Int) ≤ n := by omega
  have hc : n ≤ c := hn.2.1
  refine ⟨?_, ?_⟩
  · by_cases hx : 0 < xs.length
    · obtain ⟨b, o, rfl, _⟩ := h.at_ hx
      have hn0 : ¬ n = 0 := by omega
      simp [Instr.sliceAt, run_underlying hu, Instr.slice, Instr.sliceBounds, Instr.sliceBound, asIntOf, h0, hc, Go.Sx.run_sizeOf hi, add_plain]
    · have hn0 : n = 0 := by omega
      subst hn0
      cases A with
      | none => simp [Instr.sliceAt, run_underlying hu, Instr.slice, Instr.sliceBounds, Instr.sliceBound, asIntOf, hc, Go.Sx.run_sizeOf hi]
      | some a => obtain ⟨b, o, s⟩ := a; cases s <;> simp [Instr.sliceAt, run_underlying hu, Instr.slice, Instr.sliceBounds, Instr.sliceBound, asIntOf, hc, Go.Sx.run_sizeOf hi, Addr.add]
  · obtain ⟨A', c', he, h1, h2, h3, h4⟩ := h
    injection he with e1 e2 e3
    subst e1; subst e2
    refine ⟨_, _, rfl, Nat.le_refl _, by omega, fun hA => ?_, h4⟩
    have := h3 hA; omega
/-- A slice of one's own row is set. -/
theorem own_set_hd {P : Program} {w : World} {base : Nat} {e t : TypeId} {n c g : Nat} {ys : List Hd} {i : TypeInfo} (hi : P.info? t = some i) (hsz : i.size = 1)
    (h : OwnF w base e (.slice (some ⟨g, 0, none⟩) n c) ys) (k : Nat) (hk : k < ys.length) (b : Hd) :
    ∃ w', (Instr.storeAt t (.pointer (some ⟨g, k, none⟩)) b.v).run P w = .ok () w' ∧ OwnF w' base e (.slice (some ⟨g, 0, none⟩) n c) (ys.set k b) ∧ w.grownBy w' (some g) := by
  obtain ⟨cs, ⟨hl, hr⟩, ho, hK⟩ := h
  have hl : cs.length = ys.length := by rw [hl]; exact Nat.mul_one _
  rcases hr with ⟨hv, _⟩ | ⟨g', cap, cur, hv, hb, hg, hnc, hcm, hcs, htake⟩
  · cases hv
  · injection hv with e1 e2 e3
    injection e1 with e1
    injection e1 with e1
    subst e1; subst e2; subst e3
    have hcs : cur.size = c := by rw [hcs]; exact Nat.mul_one _
    have htake : cur.toList.take ys.length = cs := by rw [← htake]; congr 1; exact (Nat.mul_one _).symm
    have hrun := run_storeCells_at (P := P) g k e [b.v] 0 cur w hg (by simp; omega) (by simp [Value.oneCell', Hd.v])
    have hset : cur.toList.take k ++ [b.v] ++ cur.toList.drop (k + 1) = cur.toList.set k b.v := by
      rw [List.set_eq_take_append_cons_drop, if_pos (by simp; omega)]
      simp
    refine ⟨w.setRow g (cur.toList.set k b.v).toArray, ?_, ⟨cs.set k b.v, ⟨?_, .inr ⟨g, c, _, ?_, hb, setRow_heap w g cur _ e (0, 0) hg, by simpa using hnc, hcm, ?_, ?_⟩⟩, ?_, ?_⟩, ⟨rfl, rfl, rfl, by simp, fun j _ hne => setRow_other w g j _ (fun h => hne (by rw [h]))⟩⟩
    · simp only [Instr.storeAt, Instr.sureAddr, Sem.run_bind, Sem.run_pure, Result.andThen_ok, storeVar, Value.cells, Hd.v, Go.Sx.run_sizeOf hi, hsz]
      simp only [List.length_singleton, Nat.add_zero] at hrun
      rw [hset] at hrun
      simpa using hrun
    · rw [List.length_set, List.length_set, hl]; exact (Nat.mul_one _).symm
    · rw [List.length_set]
    · show _ = c * 1
      simp [hcs]
    · rw [List.length_set]
      show List.take (ys.length * 1) _ = _
      rw [Nat.mul_one, ← htake]
      exact List.take_set ..
    · intro u hu
      rcases List.mem_or_eq_of_mem_set hu with hu | hu
      · exact ho u hu
      · rw [hu]; rfl
    · intro j hj
      rw [List.length_set] at hj
      have h0 := hK j hj
      show ((cs.set k _).drop (j * 1)).take 1 = _
      have h0' : (cs.drop (j * 1)).take 1 = [ys[j].v] := h0
      rw [Nat.mul_one] at h0' ⊢
      rw [List.drop_eq_getElem_cons (by rw [List.length_set]; omega)]
      rw [List.drop_eq_getElem_cons (by omega)] at h0'
      simp only [List.take_succ_cons, List.take_zero, List.getElem_set] at h0' ⊢
      by_cases hkj : k = j
      · rw [if_pos hkj, if_pos hkj]
      · rw [if_neg hkj, if_neg hkj]
        exact h0'
end Go.Trc
namespace Go.Proofs.Ytdjjfpcfclheiaa
open Go Go.RowKit Go.Proofs Go.Trc Go.Sx

abbrev ZS : Value := .slice none 0 0
theorem info2 : (Try.prog.info? 45).map (fun i => (i.zero, i.size, i.bytes)) = some (some ZS, 1, 24) := by kernel_rfl
theorem info2' : ∃ i, Try.prog.info? 45 = some i ∧ i.size = 1 := by
  cases hp : Try.prog.info? 45 with
  | none => have := info2; rw [hp] at this; cases this
  | some i =>
    have := info2
    rw [hp] at this
    simp at this
    exact ⟨i, rfl, this.2.1⟩
theorem clip_c {w : World} {ok : Nat → Prop} {A : Option Addr} {n c : Nat} {hs : List Hd} (h : Sl w ok (.slice A n c) hs) :
    Calls Try.prog 45 #[.slice A n c] w fun e w' => e = .returned (.slice A n n) ∧ w' = w ∧ Sl w ok (.slice A n n) hs := by
  obtain ⟨i, hi, hs'⟩ := info2'
  have := run_clip (P := Try.prog) 62 45 Try.underlying62 hi h w
  exact clip_sx _ (fun _ => False) w A n c ⟨_, _, _, this.1, rfl, rfl, this.2⟩
theorem eql_nil {w : World} {ok : Nat → Prop} {α : Type} [Rep α] {t e : TypeId} (ht : Try.prog.underlying t = some (.slice e)) {A : Option Addr} {n c : Nat} {xs : List α} (h : Sl w ok (.slice A n c) xs) :
    ∃ b : Bool, (binOp .eql t (.slice A n c) (.slice none 0 0)).run Try.prog w = .ok (.bool b) w ∧ (b = true → xs = []) := by
  refine ⟨A.isNone, ?_, fun hA => ?_⟩
  · simp only [binOp]
    simp [run_equal_slice_nil w _ _ A n c ht]
  · by_cases hx : 0 < xs.length
    · obtain ⟨b, o, rfl, _⟩ := h.at_ hx
      simp at hA
    · exact List.eq_nil_of_length_eq_zero (by omega)
theorem clones_c {w : World} {ok : Nat → Prop} {A : Option Addr} {n c : Nat} {xs : List Hd} (h : Sl w ok (.slice A n c) xs) (hl : n ≤ 4096) :
    Calls Try.prog 50 #[.slice A n c] w (RetRow w 45 xs) := by
  have hn := h.len
  refine clones_sx _ (fun _ => False) w A n c ?_
  obtain ⟨b, hb, hnone⟩ := eql_nil (t := 62) Try.underlying62 h
  refine ⟨b, hb, fun ht => ⟨none, 0, 0, rfl, ?_, Below.refl _ _⟩, fun _ => ?_⟩
  · rw [hnone ht]; exact OwnF.nil _ _ _
  intro g4 hg4 w1 f1 b1 lo4 t4
  have r1 : Rw none w w.heap.size 45 w1 (.slice (some ⟨g4, 0, none⟩) 0 0) ([] : List Hd) [g4] := Rw.first f1 hg4 t4 (by simp; exact heap_lt t4)
  obtain ⟨w2, A2, n2, c2, hr2, m2, r2⟩ := r1.append 62 62 ZS 24 Try.underlying62 info2 rfl (h.below b1).arg (by simp; omega) (by simp; omega)
  exact ⟨w2, A2, n2, c2, hr2, ⟨fr_none m2.1, m2.2⟩, r2.ret rfl⟩
theorem cloneb_c {w : World} {ok : Nat → Prop} {A : Option Addr} {n c : Nat} {xs : List UInt8} (h : Sl w ok (.slice A n c) xs) (hl : n ≤ 100000) :
    Calls Try.prog 51 #[.slice A n c] w (RetRow w 5 xs) := by
  have hn := h.len
  refine cloneb_sx _ (fun _ => False) w A n c ?_
  obtain ⟨b, hb, hnone⟩ := eql_nil (t := 45) Try.underlying45 h
  refine ⟨b, hb, fun ht => ⟨none, 0, 0, rfl, ?_, Below.refl _ _⟩, fun _ => ?_⟩
  · rw [hnone ht]; exact OwnF.nil _ _ _
  intro g4 hg4 w1 f1 b1 lo4 t4
  have r1 : Rw none w w.heap.size 5 w1 (.slice (some ⟨g4, 0, none⟩) 0 0) ([] : List UInt8) [g4] := Rw.first f1 hg4 t4 (by simp; exact heap_lt t4)
  obtain ⟨w2, A2, n2, c2, hr2, m2, r2⟩ := r1.append 45 45 (.int .u8 0) 1 Try.underlying45 (by kernel_rfl) rfl (h.below b1).arg (by simp; omega) (by simp; omega)
  exact ⟨w2, A2, n2, c2, hr2, ⟨fr_none m2.1, m2.2⟩, r2.ret rfl⟩
theorem grow_c (w : World) (k : Nat) (hk : k ≤ 8192) : Calls Try.prog 78 #[.slice none 0 0, .int .i64 (k : Int)] w (RetRow w 45 ([] : List Hd)) := by
  refine grow_sx _ (fun _ => False) w none 0 0 (k : Int) ⟨fun h => by omega, fun _ => ?_⟩
  have hcap : (Builtin.cap_ #[62] 3 #[(.slice none 0 0)]).run Try.prog w = .ok (.int .i64 (0 : Int)) w := by
    simp [Builtin.cap_, run_underlying Try.underlying62, goInt]
  refine ⟨0, hcap, ?_⟩
  rw [show IntKind.i64.wrap ((0 : Int) - ((0 : Nat) : Int)) = 0 from rfl, show (k : Int) - 0 = k by omega, wrap_in (by omega)]
  refine ⟨fun hpos => ⟨0, hcap, none, 0, 0, ?_, ?_⟩, fun hle => ⟨none, 0, 0, rfl, OwnF.nil _ _ _, Below.refl _ _⟩⟩
  · obtain ⟨i, hi, hs⟩ := info2'
    exact (run_cut (P := Try.prog) (w := w) 62 45 Try.underlying62 hi (Sl.nil0 w (fun _ => True) (α := Hd)) (k := 0) (Nat.le_refl _)).1
  obtain ⟨i, hi, hz, hsz, hby⟩ := info_parts info2
  have hr := Go.Lib.run_append_nil_zeros (P := Try.prog) w 62 3 62 45 i ZS .i64 .i64 Try.underlying62 Try.underlying3 hi hz k (by omega) (by omega) (by omega) (by rw [hby]; omega)
  have hge : k ≤ grownCap w k 0 45 := grownCap_ge ..
  have hle : grownCap w k 0 45 ≤ maxLen := grownCap_le_maxLen w k 0 45 (by simp [maxLen]; omega)
  have hb : Below w.heap.size w (w.drew.alloc (.cells (Builtin.zeroCells ZS.cells k ++ Builtin.zeroCells ZS.cells (grownCap w k 0 45 - k)) 45)) := (Below.refl _ _).drew.alloc (Nat.le_refl _) _
  refine ⟨_, _, _, _, hr, ⟨(Fr.refl _ _).step hb, mild_nil hb.size⟩, ?_⟩
  have own : ∀ nn, nn ≤ grownCap w k 0 45 → True := fun _ _ => trivial
  have hcs : (Builtin.zeroCells ZS.cells k ++ Builtin.zeroCells ZS.cells (grownCap w k 0 45 - k)).size = grownCap w k 0 45 * 1 := by
    rw [Array.size_append, size_zeroCells, size_zeroCells]
    show k * 1 + _ * 1 = _
    omega
  have o : OwnF (w.drew.alloc (.cells (Builtin.zeroCells ZS.cells k ++ Builtin.zeroCells ZS.cells (grownCap w k 0 45 - k)) 45)) w.heap.size 45 (.slice (some ⟨w.heap.size, 0, none⟩) 0 (grownCap w k 0 45)) ([] : List Hd) :=
    ⟨[], ⟨by simp, .inr ⟨w.heap.size, _, _, rfl, Nat.le_refl _, heap_alloc_new w.drew _, Nat.zero_le _, hle, hcs, by simp⟩⟩, by simp, fun j hj => absurd hj (by simp)⟩
  refine ⟨some ⟨w.heap.size, 0, none⟩, 0, grownCap w k 0 45, ?_, _, _, _, rfl, o, hb⟩
  have := run_slice_hi (P := Try.prog) (w := w.drew.alloc (.cells (Builtin.zeroCells ZS.cells k ++ Builtin.zeroCells ZS.cells (grownCap w k 0 45 - k)) 45)) 62 45 i Try.underlying62 hi (some ⟨w.heap.size, 0, none⟩) k (grownCap w k 0 45) 0 (Nat.zero_le _)
  refine this.trans ?_
  rw [if_neg (by omega)]
  simp [add_plain]
set_option maxHeartbeats 1000000 in
theorem concat_c {w : World} {q : Nat} {ok ok' : Nat → Prop} {A A' : Option Addr} {n c n' c' : Nat} {t : TypeId} {fz : Nat × Nat} {xs ys : List Hd} (hq : w.heap[q]? = some (.cells #[.slice A n c, .slice A' n' c'] t fz)) (h : Sl w ok (.slice A n c) xs) (h' : Sl w ok' (.slice A' n' c') ys) (hl : n ≤ 4096) (hl' : n' ≤ 4096) :
    Calls Try.prog 67 #[.slice (some ⟨q, 0, none⟩) 2 2] w (RetRow w 45 (xs ++ ys)) := by
  have hn := h.len
  have hn' := h'.len
  have at0 : ∀ {w'}, Below w.heap.size w w' → CellsAt w' q (0 + ((0 : Int)).toNat * 1 + 0) [.slice A n c] := fun b => cells_row ((b.block q (heap_lt hq)).trans hq) rfl
  have at1 : ∀ {w'}, Below w.heap.size w w' → CellsAt w' q (0 + ((1 : Int)).toNat * 1 + 0) [.slice A' n' c'] := fun b => cells_row ((b.block q (heap_lt hq)).trans hq) rfl
  refine concat_sx _ (fun _ => False) w (some ⟨q, 0, none⟩) 2 2 ?_
  refine ⟨fun s i w' => w' = w ∧ ((i = 0 ∧ s = 0) ∨ (i = 1 ∧ s = (n : Int)) ∨ (i = 2 ∧ s = ((n + n' : Nat) : Int))), fun _ i _ => (2 - i : Int).toNat, ⟨rfl, .inl ⟨rfl, rfl⟩⟩, ?_⟩
  rintro s i w1 f1 ⟨rfl, hi⟩
  refine ⟨fun hlt => ?_, fun hge => ?_⟩
  · rcases hi with ⟨rfl, rfl⟩ | ⟨rfl, rfl⟩ | ⟨rfl, rfl⟩
    · refine ⟨by omega, by omega, q, 0, rfl, A, n, c, at0 (Below.refl _ _), ?_⟩
      rw [wrap_in (by omega)]
      exact ⟨fun h => by omega, fun _ => ⟨⟨rfl, .inr (.inl ⟨rfl, by omega⟩)⟩, by rw [wrap_in (by omega)]; show (2 - ((0:Int) + 1)).toNat < (2 - (0 : Int)).toNat; decide⟩⟩
    · refine ⟨by omega, by omega, q, 0, rfl, A', n', c', at1 (Below.refl _ _), ?_⟩
      rw [wrap_in (by omega)]
      exact ⟨fun h => by omega, fun _ => ⟨⟨rfl, .inr (.inr ⟨rfl, by omega⟩)⟩, by rw [wrap_in (by omega)]; show (2 - ((1:Int) + 1)).toNat < (2 - (1 : Int)).toNat; decide⟩⟩
    · omega
  obtain ⟨rfl, rfl⟩ : i = 2 ∧ s = ((n + n' : Nat) : Int) := by rcases hi with h | h | h <;> omega
  refine (grow_c w1 (n + n') (by omega)).mono ?_
  rintro e w2 ⟨A2, n2, c2, rfl, o2, b2⟩
  have f2 := f1.step b2
  refine ⟨A2, n2, c2, rfl, ok_ret b2 f1, ?_⟩
  refine ⟨fun A n0 c0 i w' => ∃ zs : List Hd, Rw none w1 w1.heap.size 45 w' (.slice A n0 c0) zs [] ∧ ((i = 0 ∧ zs = []) ∨ (i = 1 ∧ zs = xs) ∨ (i = 2 ∧ zs = xs ++ ys)), fun _ _ _ i _ => (2 - i : Int).toNat,
    ⟨[], ⟨o2, none_fr f2, fun k hk => ⟨.inr (tail_base o2 hk).2.1, by simp⟩, by simp, Nat.le_refl _⟩, .inl ⟨rfl, rfl⟩⟩, ?_⟩
  rintro A3 n3 c3 i w3 f3 ⟨zs, r3, hi⟩
  have b3 := fr_below f3
  refine ⟨fun hlt => ?_, fun hge => ?_⟩
  · rcases hi with ⟨rfl, rfl⟩ | ⟨rfl, rfl⟩ | ⟨rfl, rfl⟩
    · refine ⟨by omega, by omega, q, 0, rfl, A, n, c, at0 b3, ?_⟩
      obtain ⟨w4, A4, n4, c4, hr4, m4, r4⟩ := r3.append 62 62 ZS 24 Try.underlying62 info2 rfl (h.below b3).arg (by simp; omega) (by simp; omega)
      exact ⟨w4, A4, n4, c4, hr4, ⟨fr_none m4.1, m4.2⟩, ⟨_, r4, .inr (.inl ⟨rfl, rfl⟩)⟩, by rw [wrap_in (by omega)]; show (2 - ((0:Int) + 1)).toNat < (2 - (0 : Int)).toNat; decide⟩
    · refine ⟨by omega, by omega, q, 0, rfl, A', n', c', at1 b3, ?_⟩
      obtain ⟨w4, A4, n4, c4, hr4, m4, r4⟩ := r3.append 62 62 ZS 24 Try.underlying62 info2 rfl (h'.below b3).arg (by omega) (by omega)
      exact ⟨w4, A4, n4, c4, hr4, ⟨fr_none m4.1, m4.2⟩, ⟨_, r4, .inr (.inr ⟨rfl, rfl⟩)⟩, by rw [wrap_in (by omega)]; show (2 - ((1:Int) + 1)).toNat < (2 - (1 : Int)).toNat; decide⟩
    · omega
  obtain ⟨rfl, rfl⟩ : i = 2 ∧ zs = xs ++ ys := by
    rcases hi with h | h | h
    · omega
    · omega
    · exact h
  exact r3.ret rfl
end Go.Proofs.Ytdjjfpcfclheiaa
