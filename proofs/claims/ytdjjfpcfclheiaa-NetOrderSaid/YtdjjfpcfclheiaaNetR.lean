/- Net: the reference's: contracts. -/
import Derived.Test.YtdjjfpcfclheiaaNetE
set_option linter.unusedSimpArgs false
set_option linter.unusedVariables false
namespace Go.Proofs.Ytdjjfpcfclheiaa
open Go Go.RowKit Go.Proofs Go.Trc Go.Sx
/-- The reference's net: B: no number is more. -/
structure RNet (w : World) (g B : Nat) (xss : List (List UInt8)) (ts : List Int) : Prop where
  hg : ∃ A n c, w.heap[g]? = some (.cells (.slice A n c :: ts.map (Value.int .i64)).toArray TR (0, 0)) ∧ Vw w (.slice A n c) xss
  six : ts.length = 6
  rng : ∀ x ∈ ts, 0 ≤ x ∧ x ≤ (B : Int)
  len : xss.length ≤ 4096
  small : ∀ xs ∈ xss, xs.length ≤ 100000
section
variable {w w' : World} {g B : Nat} {xss : List (List UInt8)} {ts : List Int}
theorem RNet.lt (h : RNet w g B xss ts) : g < w.heap.size := by obtain ⟨A, n, c, hg, _⟩ := h.hg; exact heap_lt hg
theorem RNet.loud (h : RNet w g B xss ts) : ∀ b ∈ [g], ¬ still w b := by
  obtain ⟨A, n, c, hg, _⟩ := h.hg
  intro b hb
  simp at hb; subst hb
  exact not_still hg (.inr (.inr (.inr (.inl rfl))))
theorem RNet.keep (h : RNet w g B xss ts) (hk : w'.heap[g]? = w.heap[g]?) (k : StK w w') : RNet w' g B xss ts := by
  obtain ⟨A, n, c, hg, hv⟩ := h.hg
  exact ⟨⟨A, n, c, hk.trans hg, hv.stk k⟩, h.six, h.rng, h.len, h.small⟩
theorem RNet.below (h : RNet w g B xss ts) (b : Below w.heap.size w w') : RNet w' g B xss ts := h.keep (b.block g h.lt) (stk_below b)
theorem RNet.past {G G' : List Nat} (h : RNet w g B xss ts) (u : Up G w G' w') (hd : g ∉ G) (hG : ∀ b ∈ G, ¬ still w b) : RNet w' g B xss ts := h.keep (u.fr.block g h.lt hd) (stk_up u hG)
theorem RNet.cells (h : RNet w g B xss ts) : ∃ A n c, CellsAt w g 0 [.slice A n c] ∧ Vw w (.slice A n c) xss ∧ n = xss.length := by
  obtain ⟨A, n, c, hg, hv⟩ := h.hg
  exact ⟨A, n, c, cells_row hg rfl, hv, hv.len⟩
theorem RNet.way (h : RNet w g B xss ts) {A : Option Addr} {n c : Nat} {yss : List (List UInt8)} (hv : Vw w (.slice A n c) yss) (hl : yss.length ≤ 4096) (hs : ∀ xs ∈ yss, xs.length ≤ 100000) :
    ∃ w', (Instr.storeAt 62 (.pointer (some ⟨g, 0, none⟩)) (.slice A n c)).run Try.prog w = .ok () w' ∧ Fr (fun b => b ∈ [g]) w w' ∧ RNet w' g B yss ts ∧ w'.heap[g]? = some (.cells (.slice A n c :: ts.map (Value.int .i64)).toArray TR (0, 0)) := by
  obtain ⟨A0, n0, c0, hg, _⟩ := h.hg
  obtain ⟨w', hr, hg', gr⟩ := store_row (P := Try.prog) (w := w) 62 (by kernel_rfl) (v := .slice A n c) (o := 0) hg (by simp) rfl rfl
  have f := fr_of_grown gr
  have k : StK w w' := stk_fr f h.loud
  have hg'' : w'.heap[g]? = some (.cells (.slice A n c :: ts.map (Value.int .i64)).toArray TR (0, 0)) := by rw [hg']; simp
  exact ⟨w', hr, f, ⟨⟨A, n, c, hg'', hv.stk k⟩, h.six, h.rng, hl, hs⟩, hg''⟩
theorem tick_eq (h : RNet w g B xss ts) (hB : B < 1000000) (k : Nat) (hk : k < 6) : addV ts (k : Int) 1 = ts.set k (getV ts (k : Int) + 1) := by
  have hk' : k < ts.length := by rw [h.six]; exact hk
  have hr := h.rng _ (List.getElem_mem hk')
  have e : addE ts (k : Int) 1 = 0 := by
    unfold addE
    rw [if_neg (by omega), getV_at hk', if_neg (by unfold big; omega)]
  unfold addV
  rw [if_pos e, Int.toNat_natCast]
theorem RNet.at_t (h : RNet w g B xss ts) (k : Nat) (hk : k < 6) : CellsAt w g (k + 1) [.int .i64 (getV ts (k : Int))] := by
  obtain ⟨A, n, c, hg, hv⟩ := h.hg
  have hk' : k < ts.length := by rw [h.six]; exact hk
  refine cells_row hg ?_
  rw [getV_at hk']
  simp [hk']
theorem RNet.tick (h : RNet w g B xss ts) (hB : B < 1000000) (k : Nat) (hk : k < 6) :
    ∃ w', (Instr.storeAt 3 (.pointer (some ⟨g, k + 1, none⟩)) (.int .i64 (IntKind.i64.wrap (getV ts (k : Int) + 1)))).run Try.prog w = .ok () w' ∧ Fr (fun b => b ∈ [g]) w w' ∧ RNet w' g (B + 1) xss (addV ts (k : Int) 1) := by
  obtain ⟨A, n, c, hg, hv⟩ := h.hg
  have hk' : k < ts.length := by rw [h.six]; exact hk
  have hr := h.rng _ (List.getElem_mem hk')
  rw [tick_eq h hB k hk, getV_at hk', wrap_in (by omega)]
  obtain ⟨w', hr', hg', gr⟩ := store_row (P := Try.prog) (w := w) 3 (by kernel_rfl) (v := .int .i64 (ts[k] + 1)) (o := k + 1) hg (by simp; omega) rfl rfl
  have f := fr_of_grown gr
  refine ⟨w', hr', f, ⟨⟨A, n, c, ?_, hv.stk (stk_fr f h.loud)⟩, by rw [List.length_set]; exact h.six, fun x hx => ?_, h.len, h.small⟩⟩
  · rw [hg']; simp [List.map_set]
  · rcases List.mem_or_eq_of_mem_set hx with hx | rfl
    · have := h.rng x hx; omega
    · omega
theorem RNet.more (h : RNet w g B xss ts) {B' : Nat} (hB : B ≤ B') : RNet w g B' xss ts := ⟨h.hg, h.six, fun x hx => by have := h.rng x hx; omega, h.len, h.small⟩
/-- A row of slices is copied into an empty one. -/
theorem app_empty {w1 : World} {base g26 : Nat} {ok : Nat → Prop} {A : Option Addr} {n c : Nat} {hs : List Hd} (t : w1.heap[g26]? = some (.cells #[] 45 (0, 0))) (lo : base ≤ g26) (h : Sl w1 ok (.slice A n c) hs) (hl : n ≤ 4096) :
    ∃ w2 A2 n2 c2, (Builtin.append_ #[62, 62] 62 #[.slice (some ⟨g26, 0, none⟩) 0 0, .slice A n c]).run Try.prog w1 = .ok (.slice A2 n2 c2) w2 ∧ Below w1.heap.size w1 w2 ∧ OwnF w2 base 45 (.slice A2 n2 c2) hs ∧ ∀ k, tail (.slice A2 n2 c2) = some k → k = w1.heap.size := by
  have hn := h.len
  have lt := heap_lt t
  obtain ⟨w2, A2, n2, c2, hr, o, gr, tl⟩ := own_app (P := Try.prog) (OwnF.cells (α := Hd) [] 0 rfl lo t (by decide) (by simp)) 62 62 ZS 24 Try.underlying62 info2 rfl h.arg (by omega) (by simp; omega) (by simp; omega)
  rw [tail_full] at gr tl
  exact ⟨w2, A2, n2, c2, hr, below_of_grown gr, by simpa using o, fun k hk => (tl k hk).resolve_left (by simp)⟩
/-- .. and one more laid behind it. -/
theorem RNet.push (h : RNet w g B xss ts) {w4 : World} {A A' : Option Addr} {n c n' c' gx : Nat} {hs : List Hd} {xs : List UInt8} (q2 : Row2 w hs xss) (s : Sl w (still w) (.slice A' n' c') xs) (f4 : Fr (fun _ => False) w w4)
    (o4 : OwnF w4 w.heap.size 45 (.slice A n c) hs) (t4 : w4.heap[gx]? = some (.cells #[.slice A' n' c'] 45 (0, 0))) (hl : xss.length < 4096) (hsm : xs.length ≤ 100000) :
    ∃ w5 A5 n5 c5, (Builtin.append_ #[62, 62] 62 #[.slice A n c, .slice (some ⟨gx, 0, none⟩) 1 1]).run Try.prog w4 = .ok (.slice A5 n5 c5) w5 ∧ w4.grownBy w5 (tail (.slice A n c)) ∧ Fr (fun _ => False) w w5 ∧
      ∃ w6, (Instr.storeAt 62 (.pointer (some ⟨g, 0, none⟩)) (.slice A5 n5 c5)).run Try.prog w5 = .ok () w6 ∧ Fr (fun b => b ∈ [g]) w5 w6 ∧ RNet w6 g B (xss ++ [xs]) ts := by
  have hsl := q2.1
  obtain ⟨w5, A5, n5, c5, hr, o5, gr, tl⟩ := own_app (P := Try.prog) o4 62 62 ZS 24 Try.underlying62 info2 rfl (arg_cells [(⟨A', n', c'⟩ : Hd)] 1 rfl t4 (by decide) (fun _ _ => trivial)) f4.size (by simp; omega) (by simp; omega)
  have f5 : Fr (fun _ => False) w w5 := grown_fr (B := 0) gr f4 fun k hk => (tail_base o4 hk).2.1
  have k5 := stk_below (fr_below f5)
  have hv : Vw w5 (.slice A5 n5 c5) (xss ++ [xs]) := ⟨_, own_still o5 (by decide), Al.append (q2.stk k5) (Al.one (Sl.stk s k5))⟩
  obtain ⟨w6, hr6, f6, h6, -⟩ := (h.below (fr_below f5)).way hv (by simp; omega) (fun x hx => by
    rcases List.mem_append.1 hx with hx | hx
    · exact h.small x hx
    · simp at hx; subst hx; exact hsm)
  exact ⟨w5, A5, n5, c5, hr, gr, f5, w6, hr6, f6, h6⟩
end
end Go.Proofs.Ytdjjfpcfclheiaa
