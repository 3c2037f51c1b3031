/- A whole struct is stored, or loaded, in one step of a walk. -/
import Derived.Test.YtfjenamomipmdaaDoorBase
set_option linter.unusedSimpArgs false
set_option linter.unusedVariables false
namespace Go.Trc
open Go Go.RowKit

theorem wpList_store_agg {P : Program} {ops : Array Oper} {rest : List Oper} {o : Oper} {a : Act} {Q : Exit → Act → World → Prop} {w : World} (hgd : o.guard = none)
    (ty : TypeId) (p x : Operand) (ho : o.op = .store ty p x) {g : Nat} {t : TypeId} {old cells : Array Value} (hp : a.eval p = .pointer (some ⟨g, 0, none⟩)) (hx : a.eval x = .agg cells)
    (hg : w.heap[g]? = some (.cells old t (0, 0))) (hi : (P.info? ty).map (·.size) = some cells.size) (hs : old.size = cells.size) (h1 : cells.all (·.oneCell') = true)
    (h : ∀ w', w' = w.setRow g cells → wpList P ops Q rest (a.put o.dst undef) w') : wpList P ops Q (o :: rest) a w :=
  wpList_plain hgd fun K hK => by
    have hr := run_storeVar_row (P := P) w g t ty old cells hg hi hs h1
    have he : (execOp a.eval o).run P w = .ok .skip (w.setRow g cells) := by
      unfold execOp
      simp only [ho, hp, hx, Instr.storeAt, Instr.sureAddr, Sem.run_bind, Sem.run_pure, Result.andThen_ok, hr]
    unfold Oper.wp
    rw [he]
    exact hK _ _ (h _ rfl)

theorem wpList_load_agg {P : Program} {ops : Array Oper} {rest : List Oper} {o : Oper} {a : Act} {Q : Exit → Act → World → Prop} {w : World} (hgd : o.guard = none)
    (ty : TypeId) (p : Operand) (ho : o.op = .load ty p) {g : Nat} {t : TypeId} {cells : Array Value} {fr : Nat × Nat} {d : TypeDesc} (hp : a.eval p = .pointer (some ⟨g, 0, none⟩))
    (hg : w.heap[g]? = some (.cells cells t fr)) (hu : P.underlying ty = some d) (hd : (match d with | .struct _ | .array _ _ => true | _ => false) = true) (hi : (P.info? ty).map (·.size) = some cells.size)
    (h : wpList P ops Q rest (a.put o.dst (.agg cells)) w) : wpList P ops Q (o :: rest) a w := by
  have hr := run_loadVar_row (P := P) w g t ty cells fr d hg hu hd hi
  refine wpList_op hgd ?_ h
  unfold execOp
  simp only [ho, hp, Instr.loadAt, Instr.sureAddr, Sem.run_bind, Sem.run_pure, Result.andThen_ok, hr]
theorem heap_alloc2 (w : World) (o1 o2 : Obj) : ((w.alloc o1).alloc o2).heap[w.heap.size + 1]? = some o2 := by
  have := heap_alloc_new (w.alloc o1) o2
  simpa using this
theorem heap_alloc1 (w : World) (o1 o2 : Obj) : ((w.alloc o1).alloc o2).heap[w.heap.size]? = some o1 :=
  (Below.heap_alloc _ _ _ (by simp)).trans (heap_alloc_new w o1)
end Go.Trc
