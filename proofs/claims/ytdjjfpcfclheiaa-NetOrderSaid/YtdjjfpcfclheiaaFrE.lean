/- Frames: contracts of few, shown, Same; the law FramePuts. -/
import Derived.Test.YtdjjfpcfclheiaaFrD
set_option linter.unusedSimpArgs false
set_option linter.unusedVariables false
namespace Go.Proofs.Ytdjjfpcfclheiaa.Frm
open Go Go.RowKit Go.Proofs Go.Trc Go.Sx
set_option maxRecDepth 10000

/-- '[]byte("..")': the row is marked. -/
theorem run_mark {P : Program} {w : World} (t e : TypeId) (ht : P.underlying t = some (.slice e)) (he : P.underlying e = some (.int .u8)) (g n c : Nat) (C : Array Value) (e' : TypeId) (hg : w.heap[g]? = some (.cells C e' (0, 0))) :
    ∃ w', (convert t t (.slice (some ⟨g, 0, none⟩) n c)).run P w = .ok (.slice (some ⟨g, 0, none⟩) n c) w' ∧ w'.heap[g]? = some (.cells C e' (C.size, C.size + 1)) ∧ w.grownBy w' (some g) := by
  refine ⟨w.freeze ⟨g, C.size, none⟩ 1, ?_, ?_, ⟨rfl, rfl, rfl, ?_, fun k hk hne => ?_⟩⟩
  · have hsh : w.shape? g = some (e', C.size) := by unfold World.shape?; rw [hg]
    simp [convert, run_underlying ht, run_underlying he, markStringish, hsh]
  · show (w.heap.modify g _)[g]? = _
    rw [Array.getElem?_modify, if_pos rfl, hg]
    rfl
  · show w.heap.size ≤ (w.heap.modify g _).size
    simp
  · show (w.heap.modify g _)[k]? = _
    rw [Array.getElem?_modify, if_neg (fun h => hne (by rw [h]))]
theorem Sl.row_bytes {w : World} {g : Nat} {e : TypeId} {fr : Nat × Nat} (xs : List UInt8) (n : Nat) (hn : n = xs.length) (hm : n ≤ 9223372036854775807) (hg : w.heap[g]? = some (.cells (xs.map fun x => Value.int .u8 (x.toNat : Int)).toArray e fr)) {ok : Nat → Prop} (hok : ok g) :
    Sl w ok (.slice (some ⟨g, 0, none⟩) n n) xs := by
  subst hn
  refine ⟨_, _, rfl, Nat.le_refl _, hm, fun h => by simp at h, fun _ => ⟨g, 0, rfl, hok, Cells.of_block hg (xs.map fun x => Value.int .u8 (x.toNat : Int)) (fun j hj => by simp) fun j hj => ?_⟩⟩
  show ((List.map (fun x => Value.int .u8 (x.toNat : Int)) xs).drop (j * 1)).take 1 = _
  rw [Nat.mul_one, List.drop_eq_getElem_cons (by simpa using hj)]
  simp

theorem Sl.same {w w1 w2 : World} {v : Value} {xs : List UInt8} (h : Sl w1 (fun b => b < w.heap.size) v xs) (f1 : Fr (fun _ => False) w w1) (f2 : Fr (fun _ => False) w w2) : Sl w2 (fun b => b < w.heap.size) v xs :=
  h.mono fun b hb _ => ⟨hb, (f2.block b hb (fun h => h)).trans (f1.block b hb (fun h => h)).symm⟩
theorem Sl.any {w : World} {ok : Nat → Prop} {v : Value} {xs : List UInt8} (h : Sl w ok v xs) : Sl w (fun _ => True) v xs := h.weaken fun _ _ _ => trivial
theorem Sl.kept {w w1 w' : World} {ok : Nat → Prop} {v : Value} {xs : List UInt8} (h : Sl w ok v xs) (b : Below w.heap.size w w1) (k : Keep w.heap.size [] w1 w') : Sl w' ok v xs :=
  h.mono fun b' hb hl => ⟨hb, (k b' hl (by simp)).trans (b.block b' hl)⟩
theorem str_c {w : World} {ok : Nat → Prop} {v : Value} {xs : List UInt8} (h : Sl w ok v xs) : (convert 45 9 v).run Try.prog w = .ok (.string ⟨xs.toArray⟩) w :=
  h.string 45 9 5 Try.underlying45 Try.underlying5 Try.underlying9
/-- What Put laid, on. -/
theorem PutR.sl {w w1 : World} {m : Int} {A : Option Addr} {n c : Nat} {bs : List UInt8} (o : OwnF w1 w.heap.size 5 (.slice A n c) bs) : Sl w1 (fun _ => True) (.slice A n c) bs := o.to fun _ _ => trivial

end Go.Proofs.Ytdjjfpcfclheiaa.Frm
