/- Net: what the arguments read as. -/
import Derived.Test.YtdjjfpcfclheiaaNetG
import Derived.Test.YtdjjfpcfclheiaaStruct
set_option linter.unusedSimpArgs false
set_option linter.unusedVariables false
namespace Go.Proofs.Ytdjjfpcfclheiaa
open Go Go.RowKit Go.Proofs Go.Trc Go.Sx
abbrev FrT := Int × Int × Int × Int × Int × Int × List UInt8
abbrev OpT := Int × Int × Int × List FrT
theorem rd_frame : Rd Try.prog 47 FrT :=
  rd_struct Try.underlying47 (by kernel_rfl)
    (rdF_cons (by kernel_rfl) (rd_int Try.underlying3) rfl (rdF_cons (by kernel_rfl) (rd_int Try.underlying3) rfl (rdF_cons (by kernel_rfl) (rd_int Try.underlying3) rfl (rdF_cons (by kernel_rfl) (rd_int Try.underlying3) rfl
      (rdF_cons (by kernel_rfl) (rd_int Try.underlying3) rfl (rdF_cons (by kernel_rfl) (rd_int Try.underlying3) rfl (rdF_last (by kernel_rfl) (rd_slice Try.underlying45 (by kernel_rfl) (rd_byte Try.underlying5)))))))))
theorem rd_frames : Rd Try.prog 42 (List FrT) := rd_slice Try.underlying42 (by kernel_rfl) rd_frame
theorem rd_op : Rd Try.prog 59 OpT :=
  rd_struct Try.underlying59 (by kernel_rfl)
    (rdF_cons (by kernel_rfl) (rd_int Try.underlying3) rfl (rdF_cons (by kernel_rfl) (rd_int Try.underlying3) rfl (rdF_cons (by kernel_rfl) (rd_int Try.underlying3) rfl (rdF_last (by kernel_rfl) rd_frames))))
theorem rd_ops : Rd Try.prog 57 (List OpT) := rd_slice Try.underlying57 (by kernel_rfl) rd_op
def toF (x : FrT) : FV := ⟨x.1, x.2.1, x.2.2.1, x.2.2.2.1, x.2.2.2.2.1, x.2.2.2.2.2.1, x.2.2.2.2.2.2⟩
theorem head_of {w : World} {ok : Nat → Prop} {x : FrT} {cs : List Value} (h : Rep.K w ok x cs) : ∃ hd : Fh, FrOk w ok hd (toF x) ∧ Rep.K w ok hd cs := by
  obtain ⟨kd, fr, to, ep, sq, ak, bd⟩ := x
  obtain ⟨c1, c2, rfl, ⟨rfl, r1⟩, ⟨c3, c4, rfl, ⟨rfl, r2⟩, ⟨c5, c6, rfl, ⟨rfl, r3⟩, ⟨c7, c8, rfl, ⟨rfl, r4⟩, ⟨c9, c10, rfl, ⟨rfl, r5⟩, ⟨c11, c12, rfl, ⟨rfl, r6⟩, ⟨u, rfl, hs⟩⟩⟩⟩⟩⟩⟩ := h
  have hs0 := hs
  obtain ⟨A, c, rfl, _⟩ := hs0
  exact ⟨(kd, fr, to, ep, sq, ak, ⟨A, _, c⟩), ⟨⟨A, _, c⟩, rfl, hs⟩, _, _, rfl, ⟨rfl, r1⟩, _, _, rfl, ⟨rfl, r2⟩, _, _, rfl, ⟨rfl, r3⟩, _, _, rfl, ⟨rfl, r4⟩, _, _, rfl, ⟨rfl, r5⟩, _, _, rfl, ⟨rfl, r6⟩, rfl⟩
theorem fs_of {w : World} {ok : Nat → Prop} {v : Value} {xs : List FrT} (h : Sl w ok v xs) : Fs w ok v (xs.map toF) := by
  obtain ⟨A, c, rfl, h1, h2, h3, h4⟩ := h
  by_cases hp : 0 < xs.length
  · obtain ⟨b, o, rfl, hok, hc⟩ := h4 hp
    obtain ⟨hs, hl, hh⟩ := pick (α := Fh) (P := fun j hd => ∃ hj : j < xs.length, FrOk w ok hd (toF xs[j]) ∧ ∃ cs, Rep.K w ok hd cs ∧ ∀ i u, cs[i]? = some u → w.cell? ⟨b, o + j * 7 + i, none⟩ = some u) xs.length (fun j hj => by
      obtain ⟨cs, hK, hcc⟩ := hc j hj
      obtain ⟨hd, a, k⟩ := head_of hK
      exact ⟨hd, hj, a, cs, k, hcc⟩)
    refine ⟨hs, ⟨_, c, by rw [hl], by omega, h2, h3, fun _ => ⟨b, o, rfl, hok, fun j hj => ?_⟩⟩, by simp [hl], fun j hj hj2 => ?_⟩
    · obtain ⟨_, _, cs, k, hcc⟩ := hh j hj
      exact ⟨cs, k, hcc⟩
    · obtain ⟨hj', a, _⟩ := hh j hj
      rw [List.getElem_map]
      exact a
  · have : xs.length = 0 := by omega
    obtain rfl : xs = [] := List.eq_nil_of_length_eq_zero this
    exact ⟨[], ⟨A, c, rfl, h1, h2, h3, fun h => absurd h (by simp)⟩, Al.nil⟩
theorem op_get {w : World} {ok : Nat → Prop} {A : Option Addr} {n c : Nat} {os : List OpT} (h : Sl w ok (.slice A n c) os) (k : Nat) (hk : k < os.length) :
    ∃ p o A' n' c', A = some ⟨p, o, none⟩ ∧ ok p ∧ CellsAt w p (o + k * 4 + 0) [.int .i64 os[k].1, .int .i64 os[k].2.1, .int .i64 os[k].2.2.1, .slice A' n' c'] ∧ Fs w ok (.slice A' n' c') (os[k].2.2.2.map toF) := by
  obtain ⟨b, o, rfl, hb, cs, hK, hc⟩ := h.elem k hk
  obtain ⟨b', o', hA', hok, -⟩ := h.at_ (by omega)
  generalize hx : os[k] = x at *
  obtain ⟨x1, x2, x3, x4⟩ := x
  obtain ⟨c1, c2, rfl, ⟨rfl, r1⟩, ⟨c3, c4, rfl, ⟨rfl, r2⟩, ⟨c5, c6, rfl, ⟨rfl, r3⟩, ⟨u, rfl, hs⟩⟩⟩⟩ := hK
  have hs0 := hs
  obtain ⟨A2, c2, rfl, _⟩ := hs0
  exact ⟨b, o, A2, _, c2, rfl, hb, hc, fs_of hs⟩
theorem six_list {α : Type} {l : List α} (h : l.length = 6) : ∃ a b c d e f, l = [a, b, c, d, e, f] := by
  match l, h with
  | [a, b, c, d, e, f], _ => exact ⟨a, b, c, d, e, f, rfl⟩
/-- The reference's net, cell by cell. -/
theorem RNet.told {w : World} {g B : Nat} {xss : List (List UInt8)} {ts : List Int} (h : RNet w g B xss ts) :
    ∃ A n c t0 t1 t2 t3 t4 t5, w.heap[g]? = some (.cells #[.slice A n c, .int .i64 t0, .int .i64 t1, .int .i64 t2, .int .i64 t3, .int .i64 t4, .int .i64 t5] TR (0, 0)) ∧ n = xss.length ∧ ts = [t0, t1, t2, t3, t4, t5] := by
  obtain ⟨A, n, c, hg, hv⟩ := h.hg
  obtain ⟨t0, t1, t2, t3, t4, t5, rfl⟩ := six_list h.six
  exact ⟨A, n, c, t0, t1, t2, t3, t4, t5, hg, hv.len, rfl⟩
theorem rnet_new {w : World} {g : Nat} (h : w.heap[g]? = some (.cells #[.slice none 0 0, .int .i64 (0 : Int), .int .i64 (0 : Int), .int .i64 (0 : Int), .int .i64 (0 : Int), .int .i64 (0 : Int), .int .i64 (0 : Int)] TR (0, 0))) : RNet w g 0 [] (List.replicate 6 0) :=
  ⟨⟨none, 0, 0, h, [], Sl.nil0 _ _, Al.nil⟩, rfl, by decide, by simp, by simp⟩
theorem run_all6 (w : World) (g : Nat) : (Instr.sliceAt 63 (.pointer (some ⟨g, 1, none⟩)) none none none).run Try.prog w = .ok (.slice (some ⟨g, 1, none⟩) 6 6) w := by
  have hh : (Try.prog.info? 3).map (·.size) = some 1 := by kernel_rfl
  obtain ⟨i, hi, hs⟩ : ∃ i, Try.prog.info? 3 = some i ∧ i.size = 1 := by
    cases hp : Try.prog.info? 3 with
    | none => rw [hp] at hh; cases hh
    | some i => rw [hp] at hh; injection hh with hh; exact ⟨i, rfl, hh⟩
  simp [Instr.sliceAt, run_underlying Try.underlying63, Instr.sureAddr, Instr.sliceBounds, Instr.sliceBound, Go.Sx.run_sizeOf hi, hs, add_plain]
theorem RNet.row {w : World} {g B : Nat} {xss : List (List UInt8)} {ts : List Int} (h : RNet w g B xss ts) (hB : B ≤ 1000000) : Sl w (fun _ => True) (.slice (some ⟨g, 1, none⟩) 6 6) ts := by
  obtain ⟨A, n, c, hg, hv⟩ := h.hg
  have h6 := h.six
  refine ⟨_, 6, by rw [h6], by omega, by omega, fun h => by simp at h, fun _ => ⟨g, 1, rfl, trivial, fun j hj => ⟨[.int .i64 ts[j]], ⟨rfl, ?_⟩, fun i u hu => ?_⟩⟩⟩
  · have := h.rng _ (List.getElem_mem hj); omega
  · have hi : i = 0 := by
      rcases i with _ | i
      · rfl
      · simp at hu
    subst hi
    simp at hu; subst hu
    rw [cell_of_row w g _ _ TR (0, 0) hg]
    show ((Value.slice A n c :: ts.map (Value.int .i64)).toArray)[1 + j * 1 + 0]? = _
    rw [show 1 + j * 1 + 0 = j + 1 by omega]
    simp [hj]
end Go.Proofs.Ytdjjfpcfclheiaa
