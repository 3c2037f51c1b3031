/- Net: what slices of slices stand for; blocks that stay still; nets. -/
import Derived.Test.YtdjjfpcfclheiaaTalD
import Derived.Test.YtdjjfpcfclheiaaFrY
set_option linter.unusedSimpArgs false
set_option linter.unusedVariables false
namespace Go.Trc
open Go Go.RowKit Go.Sx
/-- What a slice is told by. -/
structure Hd where
  A : Option Addr
  n : Nat
  c : Nat
@[reducible] def Hd.v (h : Hd) : Value := .slice h.A h.n h.c
instance : Rep Hd where
  sz := 1
  pos := by decide
  K := fun _ _ x cs => cs = [x.v]
  len := by rintro _ _ _ _ rfl; rfl
  one := by rintro _ _ _ _ rfl u hu; simp at hu; subst hu; rfl
  mono := by rintro _ _ _ _ _ _ _ h; exact h
instance : Fixed Hd := ⟨fun x => [x.v], fun _ => True, ⟨fun h => ⟨h, trivial⟩, fun h => h.1⟩⟩
/-- Rows of one length, alike at each place. -/
def Al {α β : Type} (R : α → β → Prop) (xs : List α) (us : List β) : Prop := xs.length = us.length ∧ ∀ j (h1 : j < xs.length) (h2 : j < us.length), R xs[j] us[j]
namespace Al
variable {α β : Type} {R R' : α → β → Prop} {xs ys : List α} {us zs : List β}
theorem nil : Al R [] [] := ⟨rfl, fun j h => by cases h⟩
theorem one {a : α} {b : β} (h : R a b) : Al R [a] [b] := ⟨rfl, fun j h1 _ => by
  obtain rfl : j = 0 := by simpa using h1
  exact h⟩
theorem mono (h : Al R xs us) (m : ∀ a b, R a b → R' a b) : Al R' xs us := ⟨h.1, fun j h1 h2 => m _ _ (h.2 j h1 h2)⟩
theorem append (h : Al R xs us) (h' : Al R ys zs) : Al R (xs ++ ys) (us ++ zs) := by
  refine ⟨by simp [h.1, h'.1], fun j h1 h2 => ?_⟩
  have hl := h.1
  by_cases hj : j < xs.length
  · rw [List.getElem_append_left hj, List.getElem_append_left (by omega)]
    exact h.2 j hj (by omega)
  · rw [List.getElem_append_right (by omega), List.getElem_append_right (by omega)]
    simp only [List.length_append] at h1 h2
    have := h'.2 (j - xs.length) (by omega) (by omega)
    simp only [← hl]
    exact this
theorem take (h : Al R xs us) (k : Nat) : Al R (xs.take k) (us.take k) := by
  refine ⟨by simp [h.1], fun j h1 h2 => ?_⟩
  simp only [List.length_take] at h1 h2
  rw [List.getElem_take, List.getElem_take]
  exact h.2 j (by omega) (by omega)
theorem drop (h : Al R xs us) (k : Nat) : Al R (xs.drop k) (us.drop k) := by
  refine ⟨by simp [h.1], fun j h1 h2 => ?_⟩
  simp only [List.length_drop] at h1 h2
  rw [List.getElem_drop, List.getElem_drop]
  exact h.2 (k + j) (by omega) (by omega)
theorem set (h : Al R xs us) (k : Nat) {a : α} {b : β} (hr : R a b) : Al R (xs.set k a) (us.set k b) := by
  refine ⟨by simp [h.1], fun j h1 h2 => ?_⟩
  simp only [List.length_set] at h1 h2
  rw [List.getElem_set, List.getElem_set]
  split
  · exact hr
  · exact h.2 j h1 h2
end Al
theorem pick {α : Type} {P : Nat → α → Prop} : ∀ n : Nat, (∀ j, j < n → ∃ a, P j a) → ∃ l : List α, l.length = n ∧ ∀ j (h : j < l.length), P j l[j]
  | 0, _ => ⟨[], rfl, fun j h => by cases h⟩
  | n + 1, h => by
    obtain ⟨l, hl, hp⟩ := pick n fun j hj => h j (by omega)
    obtain ⟨a, ha⟩ := h n (by omega)
    refine ⟨l ++ [a], by simp [hl], fun j hj => ?_⟩
    by_cases hjl : j < l.length
    · rw [List.getElem_append_left hjl]; exact hp j hjl
    · simp only [List.length_append, List.length_singleton] at hj
      obtain rfl : j = n := by omega
      rw [List.getElem_append_right (by omega)]
      simp only [hl, Nat.sub_self, List.getElem_singleton]
      exact ha
end Go.Trc
namespace Go.Proofs.Ytdjjfpcfclheiaa
open Go Go.RowKit Go.Proofs Go.Trc Go.Sx

theorem cells_lt {w : World} {b o : Nat} {v : Value} {cs : List Value} (h : CellsAt w b o (v :: cs)) : b < w.heap.size := by
  have h0 := h 0 v rfl
  apply Classical.byContradiction
  intro hn
  rw [World.cell?] at h0
  simp [Array.getElem?_eq_none (Nat.le_of_not_lt hn)] at h0
theorem cells_keep {w w' : World} {b o : Nat} {cs : List Value} (h : CellsAt w b o cs) (hk : w'.heap[b]? = w.heap[b]?) : CellsAt w' b o cs := fun j u hu => (World.cell?_of_block hk).trans (h j u hu)
theorem cells_below {w w' : World} {b o : Nat} {v : Value} {cs : List Value} (h : CellsAt w b o (v :: cs)) (g : Below w.heap.size w w') : CellsAt w' b o (v :: cs) := cells_keep h (g.block b (cells_lt h))
abbrev TN : TypeId := 89
abbrev TF : TypeId := 47
abbrev TR : TypeId := 65
/-- A block that no method writes. -/
def still (w : World) (b : Nat) : Prop := ∃ C t fr, w.heap[b]? = some (.cells C t fr) ∧ t ≠ TN ∧ t ≠ TT ∧ t ≠ TE ∧ t ≠ TR ∧ t ≠ TF
def StK (w w' : World) : Prop := ∀ b, still w b → w'.heap[b]? = w.heap[b]?
theorem still_lt {w : World} {b : Nat} (h : still w b) : b < w.heap.size := by obtain ⟨_, _, _, h, _⟩ := h; exact heap_lt h
theorem StK.still {w w' : World} (k : StK w w') {b : Nat} (h : still w b) : still w' b := by
  have hk := k b h
  obtain ⟨C, t, fr, hh, ht⟩ := h
  exact ⟨C, t, fr, hk.trans hh, ht⟩
theorem StK.refl (w : World) : StK w w := fun _ _ => rfl
theorem StK.trans {a b c : World} (h : StK a b) (g : StK b c) : StK a c := fun k hk => (g k (h.still hk)).trans (h k hk)
theorem stk_below {w w' : World} (b : Below w.heap.size w w') : StK w w' := fun k hk => b.block k (still_lt hk)
theorem stk_fr {S : Nat → Prop} {w w' : World} (f : Fr S w w') (h : ∀ b, S b → ¬ still w b) : StK w w' := fun k hk => f.block k (still_lt hk) fun hs => h k hs hk
theorem stk_up {F F' : List Nat} {w w' : World} (u : Up F w F' w') (h : ∀ b ∈ F, ¬ still w b) : StK w w' := stk_fr u.fr h
theorem Sl.stk {α : Type} [Rep α] {w w' : World} {v : Value} {xs : List α} (h : Sl w (still w) v xs) (k : StK w w') : Sl w' (still w') v xs := Sl.mono (fun b hb _ => ⟨k.still hb, k b hb⟩) h
theorem own_still {α : Type} [Rep α] [Flat α] {w : World} {base : Nat} {e : TypeId} {v : Value} {xs : List α} (h : OwnF w base e v xs) (he : e ≠ TN ∧ e ≠ TT ∧ e ≠ TE ∧ e ≠ TR ∧ e ≠ TF) : Sl w (still w) v xs := by
  obtain ⟨A, c, rfl, hA⟩ := Own.slice h
  have hs := h.sl
  obtain ⟨A', c', he', h1, h2, h3, h4⟩ := hs
  injection he' with e1 e2 e3
  subst e1; subst e3
  refine ⟨A, c, rfl, h1, h2, h3, fun hp => ?_⟩
  obtain ⟨b, o, hb, hok, hc⟩ := h4 hp
  refine ⟨b, o, hb, ?_, fun j hj => by
    obtain ⟨cs, hK, hcc⟩ := hc j hj
    exact ⟨cs, Flat.flat hK, hcc⟩⟩
  obtain ⟨cs, ⟨_, q⟩, _⟩ := h
  rcases q with ⟨q, _⟩ | ⟨g', cap, cur, q, _, hg', _⟩
  · injection q with q; rw [hb] at q; cases q
  · injection q with q
    rw [hb] at q
    injection q with q
    injection q with q
    subst q
    exact ⟨_, e, _, hg', he⟩
theorem not_still {w : World} {b : Nat} {C : Array Value} {t : TypeId} {fr : Nat × Nat} (h : w.heap[b]? = some (.cells C t fr)) (ht : t = TN ∨ t = TT ∨ t = TE ∨ t = TR ∨ t = TF) : ¬ still w b := by
  rintro ⟨C', t', fr', hh, h1, h2, h3, h4, h5⟩
  rw [h] at hh
  injection hh with hh
  injection hh with _ hh
  subst hh
  rcases ht with ht | ht | ht | ht | ht
  · exact h1 ht
  · exact h2 ht
  · exact h3 ht
  · exact h4 ht
  · exact h5 ht
/-- Slices of bytes, and what they hold. -/
abbrev Row2 (w : World) : List Hd → List (List UInt8) → Prop := Al fun h xs => Sl w (still w) h.v xs
theorem Row2.stk {w w' : World} {hs : List Hd} {xss : List (List UInt8)} (h : Row2 w hs xss) (k : StK w w') : Row2 w' hs xss := Al.mono h fun _ _ h => Sl.stk h k
def Vw (w : World) (v : Value) (xss : List (List UInt8)) : Prop := ∃ hs : List Hd, Sl w (still w) v hs ∧ Row2 w hs xss
theorem Vw.stk {w w' : World} {v : Value} {xss : List (List UInt8)} (h : Vw w v xss) (k : StK w w') : Vw w' v xss := by
  obtain ⟨hs, h1, h2⟩ := h
  exact ⟨hs, Sl.stk h1 k, h2.stk k⟩
theorem Vw.len {w : World} {A : Option Addr} {n c : Nat} {xss : List (List UInt8)} (h : Vw w (.slice A n c) xss) : n = xss.length := by
  obtain ⟨hs, h1, h2⟩ := h
  rw [← h2.1]; exact h1.len
theorem Vw.get {w : World} {A : Option Addr} {n c : Nat} {xss : List (List UInt8)} (h : Vw w (.slice A n c) xss) (k : Nat) (hk : k < xss.length) :
    ∃ p o A' n' c', A = some ⟨p, o, none⟩ ∧ CellsAt w p (o + k * 1 + 0) [.slice A' n' c'] ∧ Sl w (still w) (.slice A' n' c') xss[k] := by
  obtain ⟨hs, h1, h2⟩ := h
  have hl := h2.1
  obtain ⟨b, o, hA, _, _, _, hc⟩ := Sl.cells h1 k (by omega)
  exact ⟨b, o, _, _, _, hA, hc, h2.2 k (by omega) hk⟩
/-- A net. -/
structure NetS (w : World) (g t : Nat) (xss : List (List UInt8)) (ts : List Int) (Ft : List Nat) : Prop where
  hg : ∃ A n c, w.heap[g]? = some (.cells #[.slice A n c, .pointer (some ⟨t, 0, none⟩)] TN (0, 0)) ∧ Vw w (.slice A n c) xss
  tal : Tal w t ts Ft
  len : xss.length ≤ 4096
  small : ∀ xs ∈ xss, xs.length ≤ 100000
/-- .. F: its blocks. -/
inductive Net (w : World) (g : Nat) (xss : List (List UInt8)) (ts : List Int) : List Nat → Prop
  | mk (t : Nat) (Ft : List Nat) (h : NetS w g t xss ts Ft) : Net w g xss ts (g :: Ft)
theorem NetS.lt {w : World} {g t : Nat} {xss : List (List UInt8)} {ts : List Int} {Ft : List Nat} (h : NetS w g t xss ts Ft) : ∀ b ∈ g :: Ft, b < w.heap.size := by
  obtain ⟨A, n, c, hg, _⟩ := h.hg
  intro b hb
  rcases List.mem_cons.1 hb with rfl | hb
  · exact heap_lt hg
  · exact h.tal.lt b hb
theorem NetS.apart {w : World} {g t : Nat} {xss : List (List UInt8)} {ts : List Int} {Ft : List Nat} (h : NetS w g t xss ts Ft) : g ∉ Ft := fun hm => by
  obtain ⟨A, n, c, hg, _⟩ := h.hg
  obtain ⟨C, t', hh, ht⟩ := h.tal.types g hm
  rw [hg] at hh
  injection hh with hh
  injection hh with _ hh
  subst hh
  rcases ht with ht | ht <;> exact absurd ht (by decide)
theorem NetS.loud {w : World} {g t : Nat} {xss : List (List UInt8)} {ts : List Int} {Ft : List Nat} (h : NetS w g t xss ts Ft) : ∀ b ∈ g :: Ft, ¬ still w b := by
  obtain ⟨A, n, c, hg, _⟩ := h.hg
  rintro b hb ⟨C, t', fr, hh, h1, h2, h3, h4, h5⟩
  rcases List.mem_cons.1 hb with rfl | hb
  · rw [hg] at hh
    injection hh with hh
    injection hh with _ hh
    exact h1 hh.symm
  · obtain ⟨C', t'', hh', ht⟩ := h.tal.types b hb
    rw [hh'] at hh
    injection hh with hh
    injection hh with _ hh
    subst hh
    exact ht.elim h2 h3
theorem NetS.keep {w w' : World} {g t : Nat} {xss : List (List UInt8)} {ts : List Int} {Ft : List Nat} (h : NetS w g t xss ts Ft) (hk : ∀ b ∈ g :: Ft, w'.heap[b]? = w.heap[b]?) (k : StK w w') : NetS w' g t xss ts Ft := by
  obtain ⟨A, n, c, hg, hv⟩ := h.hg
  exact ⟨⟨A, n, c, (hk g (by simp)).trans hg, hv.stk k⟩, h.tal.keep fun b hb _ => hk b (by simp [hb]), h.len, h.small⟩
theorem NetS.below {w w' : World} {g t : Nat} {xss : List (List UInt8)} {ts : List Int} {Ft : List Nat} (h : NetS w g t xss ts Ft) (b : Below w.heap.size w w') : NetS w' g t xss ts Ft := h.keep (fun k hk => b.block k (h.lt k hk)) (stk_below b)
section
variable {w w' : World} {g : Nat} {xss : List (List UInt8)} {ts : List Int} {F : List Nat}
theorem Net.lt (h : Net w g xss ts F) : ∀ b ∈ F, b < w.heap.size := by cases h with | mk t Ft h => exact h.lt
theorem Net.loud (h : Net w g xss ts F) : ∀ b ∈ F, ¬ still w b := by cases h with | mk t Ft h => exact h.loud
theorem Net.below (h : Net w g xss ts F) (b : Below w.heap.size w w') : Net w' g xss ts F := by cases h with | mk t Ft h => exact .mk t Ft (h.below b)
theorem Net.past {G G' : List Nat} (h : Net w g xss ts F) (u : Up G w G' w') (hd : ∀ b ∈ F, b ∉ G) (hG : ∀ b ∈ G, ¬ still w b) : Net w' g xss ts F := by
  cases h with | mk t Ft h => exact .mk t Ft (h.keep (fun b hb => u.fr.block b (h.lt b hb) (hd b hb)) (stk_up u hG))
theorem Net.len (h : Net w g xss ts F) : xss.length ≤ 4096 := by cases h with | mk t Ft h => exact h.len
theorem Net.mem (h : Net w g xss ts F) : g ∈ F := by cases h with | mk t Ft h => simp
theorem Net.stk {F' : List Nat} (h : Net w g xss ts F) (u : Up F w F' w') : StK w w' := stk_up u h.loud
theorem Net.cells (h : Net w g xss ts F) : ∃ A n c, CellsAt w g 0 [.slice A n c] ∧ Vw w (.slice A n c) xss ∧ n = xss.length := by
  cases h with
  | mk t Ft h =>
    obtain ⟨A, n, c, hg, hv⟩ := h.hg
    exact ⟨A, n, c, cells_row hg rfl, hv, hv.len⟩
end
theorem up_cons {g : Nat} {F F' : List Nat} {w w' : World} (u : Up F w F' w') : Up (g :: F) w (g :: F') w' :=
  ⟨u.fr.mono fun k _ h => List.mem_cons_of_mem _ h, fun b hb => by
    rcases List.mem_cons.1 hb with rfl | hb
    · exact .inl (by simp)
    · exact (u.new b hb).imp (fun h => List.mem_cons_of_mem _ h) id⟩
theorem up_self {g : Nat} {F : List Nat} {w w' : World} (f : Fr (fun b => b ∈ [g]) w w') : Up (g :: F) w (g :: F) w' := ⟨f.mono fun k _ h => by simp at h; simp [h], fun b hb => .inl hb⟩
end Go.Proofs.Ytdjjfpcfclheiaa
