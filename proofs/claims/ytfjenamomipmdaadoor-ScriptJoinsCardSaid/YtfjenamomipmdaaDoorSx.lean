/- Sx: code is run with letters for what is not known; what is left is a tree of tests, calls and ends. (Definitions; Sy proves that the tree says what the code does.) -/
import Derived.Test.YtfjenamomipmdaaDoorRegion
set_option linter.unusedSimpArgs false
set_option linter.unusedVariables false
namespace Go.Sx
open Go Go.RowKit Go.Trc

/-! ### Letters -/
inductive At where
  | i (x : Int) | b (x : Bool) | s (x : ByteArray) | v (x : Value) | n (x : Nat) | a (x : Option Addr) | r (x : Nat) (T : List Nat)
abbrev Env := List At
def nth {α : Type} : List α → Nat → Option α
  | [], _ => none
  | x :: _, 0 => some x
  | _ :: l, j + 1 => nth l j
def Env.I (e : Env) (j : Nat) : Int := match nth e j with | some (.i x) => x | _ => 0
def Env.B (e : Env) (j : Nat) : Bool := match nth e j with | some (.b x) => x | _ => false
def Env.S (e : Env) (j : Nat) : ByteArray := match nth e j with | some (.s x) => x | _ => ByteArray.empty
def Env.V (e : Env) (j : Nat) : Value := match nth e j with | some (.v x) => x | _ => undef
def Env.N (e : Env) (j : Nat) : Nat := match nth e j with | some (.n x) => x | some (.r x _) => x | _ => 0
/-- The blocks that may be written where an order is open. -/
def Env.L (e : Env) (j : Nat) : List Nat := match nth e j with | some (.r _ T) => T | _ => []
def Env.A (e : Env) (j : Nat) : Option Addr := match nth e j with | some (.a x) => x | _ => none

/-! ### Terms -/
inductive SE where
  | lit (s : ByteArray) | var (j : Nat) | app (x y : SE)
  deriving DecidableEq
inductive IE where
  | lit (n : Int) | var (j : Nat) | nat (j : Nat)
  | add (x y : IE) | sub (x y : IE) | mul (x y : IE) | wrap (k : IntKind) (x : IE) | bits (op : BinOp) (k : IntKind) (x y : IE)
  | tdiv (x y : IE) | tmod (x y : IE) | shr (x : IE) (n : Nat) | shl (x : IE) (n : Nat) | ssz (s : SE)
  deriving DecidableEq
inductive BE where
  | lit (b : Bool) | var (j : Nat) | eq (x y : IE) | ne (x y : IE) | lt (x y : IE) | le (x y : IE) | not (x : BE) | seq (x y : SE) | and (x y : BE) | or (x y : BE)
  deriving DecidableEq
inductive AE where
  | none | var (j : Nat) | blk (j : Nat) (off : Nat)
  deriving DecidableEq
inductive NE where
  | lit (n : Nat) | var (j : Nat)
  deriving DecidableEq
/-- What stands in one cell. -/
inductive SC where
  | int (k : IntKind) (x : IE) | bool (x : BE) | str (x : SE) | ptr (j off : Nat) | nilp | slice (a : AE) (n c : NE)
  | eptr (b o : Nat) (x : IE) (sz off : Nat) | val (j : Nat) | nilIface | nilFunc | fn (f : FuncId) | glob (g : Nat) | undef
  deriving DecidableEq
inductive SV where
  | one (c : SC) | agg (l : List SC) | tup (l : List (Bool × List SC))
  deriving DecidableEq

def SE.den (e : Env) : SE → ByteArray
  | .lit s => s | .var j => e.S j | .app x y => x.den e ++ y.den e
def IE.den (e : Env) : IE → Int
  | .lit n => n | .var j => e.I j | .nat j => (e.N j : Int)
  | .add x y => x.den e + y.den e | .sub x y => x.den e - y.den e | .mul x y => x.den e * y.den e
  | .wrap k x => k.wrap (x.den e) | .bits op k x y => Go.bits op k (x.den e) (y.den e)
  | .tdiv x y => (x.den e).tdiv (y.den e) | .tmod x y => (x.den e).tmod (y.den e)
  | .shr x n => (x.den e).fdiv (2 ^ n) | .shl x n => x.den e * 2 ^ n | .ssz s => ((s.den e).size : Int)
def BE.den (e : Env) : BE → Bool
  | .lit b => b | .var j => e.B j | .eq x y => x.den e == y.den e | .ne x y => x.den e != y.den e
  | .lt x y => decide (x.den e < y.den e) | .le x y => decide (x.den e ≤ y.den e) | .not x => !x.den e
  | .seq x y => (x.den e).toList == (y.den e).toList | .and x y => x.den e && y.den e | .or x y => x.den e || y.den e
/-- Sums and tests of numbers that are known. -/
def IE.add' : IE → IE → IE
  | .lit a, .lit b => .lit (a + b) | x, y => .add x y
def IE.sub' : IE → IE → IE
  | .lit a, .lit b => .lit (a - b) | x, y => .sub x y
def IE.mul' : IE → IE → IE
  | .lit a, .lit b => .lit (a * b) | x, y => .mul x y
def IE.wrap' (k : IntKind) : IE → IE
  | .lit a => .lit (k.wrap a) | x => .wrap k x
def BE.lt' : IE → IE → BE
  | .lit a, .lit b => .lit (decide (a < b)) | x, y => .lt x y
def BE.le' : IE → IE → BE
  | .lit a, .lit b => .lit (decide (a ≤ b)) | x, y => .le x y
theorem IE.add'_den (e : Env) (x y : IE) : (IE.add' x y).den e = x.den e + y.den e := by unfold IE.add'; split <;> rfl
theorem IE.sub'_den (e : Env) (x y : IE) : (IE.sub' x y).den e = x.den e - y.den e := by unfold IE.sub'; split <;> rfl
theorem IE.mul'_den (e : Env) (x y : IE) : (IE.mul' x y).den e = x.den e * y.den e := by unfold IE.mul'; split <;> rfl
theorem IE.wrap'_den (e : Env) (k : IntKind) (x : IE) : (IE.wrap' k x).den e = k.wrap (x.den e) := by unfold IE.wrap'; split <;> rfl
def BE.eq' : IE → IE → BE
  | .lit a, .lit b => .lit (a == b) | x, y => .eq x y
def BE.ne' : IE → IE → BE
  | .lit a, .lit b => .lit (a != b) | x, y => .ne x y
theorem BE.eq'_den (e : Env) (x y : IE) : (BE.eq' x y).den e = (x.den e == y.den e) := by unfold BE.eq'; split <;> rfl
theorem BE.ne'_den (e : Env) (x y : IE) : (BE.ne' x y).den e = (x.den e != y.den e) := by unfold BE.ne'; split <;> rfl
theorem BE.lt'_den (e : Env) (x y : IE) : (BE.lt' x y).den e = decide (x.den e < y.den e) := by unfold BE.lt'; split <;> rfl
theorem BE.le'_den (e : Env) (x y : IE) : (BE.le' x y).den e = decide (x.den e ≤ y.den e) := by unfold BE.le'; split <;> rfl
def AE.den (e : Env) : AE → Option Addr
  | .none => Option.none | .var j => e.A j | .blk j off => some ⟨e.N j, off, Option.none⟩
def NE.den (e : Env) : NE → Nat
  | .lit n => n | .var j => e.N j
def NE.ie : NE → IE
  | .lit n => .lit n | .var j => .nat j
def SC.den (e : Env) : SC → Value
  | .int k x => .int k (x.den e) | .bool x => .bool (x.den e) | .str x => .string (x.den e)
  | .ptr j off => .pointer (some ⟨e.N j, off, none⟩) | .nilp => .pointer none
  | .slice a n c => .slice (a.den e) (n.den e) (c.den e)
  | .eptr b o x sz off => .pointer (some ⟨e.N b, e.N o + (x.den e).toNat * sz + off, none⟩)
  | .val j => e.V j | .nilIface => .nilIface | .nilFunc => .nilFunc | .fn f => .func (.func f) #[] #[] | .glob g => .pointer (some ⟨g, 0, none⟩) | .undef => Go.undef
/-- The cells of a row. -/
def cellsDen (e : Env) : List SC → List Value
  | [] => [] | c :: l => c.den e :: cellsDen e l
def compDen (e : Env) (p : Bool × List SC) : Value := if p.1 then .agg (cellsDen e p.2).toArray else match p.2 with | c :: _ => c.den e | [] => Go.undef
def compsDen (e : Env) : List (Bool × List SC) → List Value
  | [] => [] | p :: l => compDen e p :: compsDen e l
def SV.den (e : Env) : SV → Value
  | .one c => c.den e | .agg l => .agg (cellsDen e l).toArray | .tup l => .tuple (compsDen e l).toArray
def svsDen (e : Env) : List SV → List Value
  | [] => [] | v :: l => v.den e :: svsDen e l
def SV.cells : SV → List SC
  | .one c => [c] | .agg l => l | .tup _ => []

/-- A test, as it is told where it holds, and where it does not. -/
def BE.T (e : Env) : BE → Prop
  | .lit b => b = true | .var j => e.B j = true | .eq x y => x.den e = y.den e | .ne x y => ¬ x.den e = y.den e
  | .lt x y => x.den e < y.den e | .le x y => x.den e ≤ y.den e | .not x => x.den e = false
  | .seq x y => (x.den e).toList = (y.den e).toList | .and x y => x.T e ∧ y.T e | .or x y => x.T e ∨ y.T e
def BE.F (e : Env) : BE → Prop
  | .lit b => b = false | .var j => e.B j = false | .eq x y => ¬ x.den e = y.den e | .ne x y => x.den e = y.den e
  | .lt x y => y.den e ≤ x.den e | .le x y => y.den e < x.den e | .not x => x.den e = true
  | .seq x y => ¬ (x.den e).toList = (y.den e).toList | .and x y => x.F e ∨ y.F e | .or x y => x.F e ∧ y.F e

/-! ### Kinds of letters -/
inductive K where
  | i | b | s | v | n | a | z
  deriving DecidableEq
def exs : List K → (List At → Prop) → Prop
  | [], F => F []
  | .i :: r, F => ∃ x : Int, exs r fun l => F (.i x :: l)
  | .b :: r, F => ∃ x : Bool, exs r fun l => F (.b x :: l)
  | .s :: r, F => ∃ x : ByteArray, exs r fun l => F (.s x :: l)
  | .v :: r, F => ∃ x : Value, exs r fun l => F (.v x :: l)
  | .n :: r, F => ∃ x : Nat, exs r fun l => F (.n x :: l)
  | .a :: r, F => ∃ x : Option Addr, exs r fun l => F (.a x :: l)
  | .z :: r, F => ∃ (x : Nat) (T : List Nat), exs r fun l => F (.r x T :: l)
def alls : List K → (List At → Prop) → Prop
  | [], F => F []
  | .i :: r, F => ∀ x : Int, alls r fun l => F (.i x :: l)
  | .b :: r, F => ∀ x : Bool, alls r fun l => F (.b x :: l)
  | .s :: r, F => ∀ x : ByteArray, alls r fun l => F (.s x :: l)
  | .v :: r, F => ∀ x : Value, alls r fun l => F (.v x :: l)
  | .n :: r, F => ∀ x : Nat, alls r fun l => F (.n x :: l)
  | .a :: r, F => ∀ x : Option Addr, alls r fun l => F (.a x :: l)
  | .z :: r, F => ∀ (x : Nat) (T : List Nat), alls r fun l => F (.r x T :: l)
def Cur : List K → Type → Type
  | [], α => α
  | .i :: r, α => Int → Cur r α
  | .b :: r, α => Bool → Cur r α
  | .s :: r, α => ByteArray → Cur r α
  | .v :: r, α => Value → Cur r α
  | .n :: r, α => Nat → Cur r α
  | .a :: r, α => Option Addr → Cur r α
  | .z :: r, α => Nat → List Nat → Cur r α
/-- Letters that a loop is given: a place of each kind. -/
inductive LA where
  | i (x : IE) | b (x : BE) | s (x : SE) | v (x : SC) | n (x : NE) | a (x : AE)
def LA.den (e : Env) : LA → At
  | .i x => .i (x.den e) | .b x => .b (x.den e) | .s x => .s (x.den e) | .v x => .v (x.den e) | .n x => .n (x.den e) | .a x => .a (x.den e)
def lasDen (e : Env) : List LA → List At
  | [] => [] | x :: l => x.den e :: lasDen e l
def capp {α : Type} : (ks : List K) → Cur ks α → List At → α
  | [], f, _ => f
  | .i :: r, f, l => capp r (f (Env.I l 0)) l.tail
  | .b :: r, f, l => capp r (f (Env.B l 0)) l.tail
  | .s :: r, f, l => capp r (f (Env.S l 0)) l.tail
  | .v :: r, f, l => capp r (f (Env.V l 0)) l.tail
  | .n :: r, f, l => capp r (f (Env.N l 0)) l.tail
  | .a :: r, f, l => capp r (f (Env.A l 0)) l.tail
  | .z :: r, f, l => capp r (f (Env.N l 0) (Env.L l 0)) l.tail

/-! ### Worlds -/
/-- Between w and w' nothing has changed of what there was, but in blocks that S lets. -/
structure Fr (S : Nat → Prop) (w w' : World) : Prop where
  os : w'.os = w.os
  tape : w'.tape = w.tape
  output : w'.output = w.output
  size : w.heap.size ≤ w'.heap.size
  block : ∀ k, k < w.heap.size → ¬ S k → w'.heap[k]? = w.heap[k]?

/-- What a call, or another's operation, must leave: the blocks that are known by name. -/
def Mild (bs : List Nat) (w w' : World) : Prop := w.heap.size ≤ w'.heap.size ∧ ∀ b ∈ bs, b < w.heap.size → w'.heap[b]? = w.heap[b]?

/-- What is told of a world: nothing (it is the last one), or which blocks have been written, and what stands in some. -/
structure Dl where
  clean : Bool
  wr : List Nat
  tell : List (Bool × Nat × TypeId × List SC)
def nsDen (e : Env) : List Nat → List Nat
  | [] => [] | j :: l => e.N j :: nsDen e l
def Dl.frame (e : Env) (d : Dl) (wb w : World) : Prop := match d.wr with
  | [] => Below wb.heap.size wb w
  | l => Fr (fun b => b ∈ nsDen e l) wb w
def tells (e : Env) (wb w : World) : List (Bool × Nat × TypeId × List SC) → Prop → Prop
  | [], Q => Q
  | (true, j, t, cs) :: l, Q => wb.heap.size ≤ e.N j → w.heap[e.N j]? = some (.cells (cellsDen e cs).toArray t (0, 0)) → tells e wb w l Q
  | (false, j, t, cs) :: l, Q => w.heap[e.N j]? = some (.cells (cellsDen e cs).toArray t (0, 0)) → tells e wb w l Q
def world (S : Nat → Prop) (w0 : World) (e : Env) (wb : World) (d : Dl) (Q : World → Prop) : Prop :=
  if d.clean = true then tells e wb wb d.tell (Q wb) else ∀ w, Fr S w0 w → d.frame e wb w → tells e wb w d.tell (Q w)

/-- Below N nothing has changed, but in the blocks D. -/
def Keep (N : Nat) (D : List Nat) (w w' : World) : Prop := ∀ k, k < N → k ∉ D → w'.heap[k]? = w.heap[k]?
/-- What a call, or another's operation, owes where an order is open: what lies below N is kept. -/
def owes (e : Env) (lim : Option (Nat × List Nat)) (w w' : World) (Q : Prop) : Prop := match lim with
  | none => Q
  | some (j, D) => Keep (e.N j) (e.L j ++ nsDen e D) w w' ∧ Q
/-- An operation that only looks comes to v; where an order is open, in whatever world that is the same below N. -/
def looks (P : Program) (e : Env) (lim : Option (Nat × List Nat)) (w : World) (s : Sem Value) (v : Value) : Prop := match lim with
  | none => s.run P w = .ok v w
  | some (j, D) => ∀ w', Keep (e.N j) (e.L j ++ nsDen e D) w w' → s.run P w' = .ok v w'

/-! ### What is left to another -/
inductive RE where
  | bi (b : Builtin) (ats : Array TypeId) (ty : TypeId) (xs : List SV)
  | conv (src dst : TypeId) (x : SV)
  | slice (t : TypeId) (x : SV) (lo hi mx : Option SV)
  | bin (op : BinOp) (t : TypeId) (x y : SV)
  | index (t : TypeId) (x i : SV)
  | indexAt (t : TypeId) (x i : SV)
  | fieldAt (t : TypeId) (x : SV) (f : Nat)
  | loadAt (t : TypeId) (p : SV)
  | mkSlice (t : TypeId) (l c : SV)
  | mkFunc (fn : Fn) (first captured : List SV)
  | range (t : TypeId) (x : SV)
  | next (x : SV) (str : Bool) (t : TypeId)
  | ext (f : FuncId) (xs : List SV)
def builtinSem (b : Builtin) (ats : Array TypeId) (ty : TypeId) (xs : Array Value) : Sem Value := match b with
  | .append => Builtin.append_ ats ty xs
  | .copy => Builtin.copy_ ats ty xs
  | .cap => Builtin.cap_ ats ty xs
  | .len => Builtin.len_ ats ty xs
  | .min => Builtin.min_ ats ty xs
  | .max => Builtin.max_ ats ty xs
  | _ => stuck "Sx"
def extSem (f : FuncId) (xs : Array Value) : Sem Value := do
  match ← callFunc f xs with
  | .value v => pure v
  | _ => stuck "Sx"
def RE.den (e : Env) : RE → Sem Value
  | .bi b ats ty xs => builtinSem b ats ty (svsDen e xs).toArray
  | .conv src dst x => Go.convert src dst (x.den e)
  | .slice t x lo hi mx => Instr.sliceAt t (x.den e) (lo.map (SV.den e)) (hi.map (SV.den e)) (mx.map (SV.den e))
  | .bin op t x y => Go.binOp op t (x.den e) (y.den e)
  | .index t x i => Instr.index t (x.den e) (i.den e)
  | .indexAt t x i => Instr.indexAt t (x.den e) (i.den e)
  | .fieldAt t x f => Instr.fieldAt t (x.den e) f
  | .loadAt t p => Instr.loadAt t (p.den e)
  | .mkSlice t l c => Instr.makeSlice t (l.den e) (c.den e)
  | .mkFunc fn first captured => Instr.makeFunc fn (svsDen e first).toArray (svsDen e captured).toArray
  | .range t x => Instr.range t (x.den e)
  | .next x str t => Instr.next (x.den e) str t
  | .ext f xs => extSem f (svsDen e xs).toArray

/-! ### Trees -/
inductive Tree where
  | bad (why : Nat)
  | cond (b : BE) (t f : Tree)
  | need (b : BE) (t : Tree)
  | blk (t : Tree)
  | enter (d : Dl) (t : Tree)
  | enterT (d : Dl) (names : List Nat) (t : Tree)
  | idx (a : AE) (n : NE) (i : IE) (t : Tree)
  | nn (j : Nat) (t : Tree)
  | np (j : Nat) (t : Tree)
  | oc (j : Nat) (t : Tree)
  | load (b o : Nat) (x : IE) (sz off : Nat) (ks : List K) (cells : List SC) (d : Dl) (lim : Option (Nat × List Nat)) (t : Tree)
  | look (r : RE) (res : SV) (ks : List K) (d : Dl) (lim : Option (Nat × List Nat)) (t : Tree)
  | call (f : FuncId) (xs : List SV) (res : SV) (ks : List K) (d : Dl) (kept : List Nat) (hav : List (Nat × TypeId × List SC)) (lim : Option (Nat × List Nat)) (t : Tree)
  | callv (f : SV) (xs : List SV) (res : SV) (ks : List K) (d : Dl) (kept : List Nat) (hav : List (Nat × TypeId × List SC)) (lim : Option (Nat × List Nat)) (t : Tree)
  | run (r : RE) (res : SV) (ks : List K) (d : Dl) (kept : List Nat) (lim : Option (Nat × List Nat)) (t : Tree)
  | store (ty : TypeId) (p v : SV) (d : Dl) (kept : List Nat) (lim : Option (Nat × List Nat)) (t : Tree)
  | loop (ks : List K) (init : List LA) (d : Dl) (hd : List (Bool × Nat × TypeId × List SC)) (t : Tree)
  | join (ks : List K) (hd : List (Bool × Nat × TypeId × List SC)) (t u : Tree)
  | back (j : Nat) (xs : List LA) (d : Dl)
  | ret (v : SV) (d : Dl)
  | all (l r : Tree)

structure LC where
  ks : List K
  I : Cur ks (World → Prop)
  m : Cur ks (World → Nat)
  n : Nat

/-- What the blocks hold that a call has written. -/
def holds (e : Env) (w : World) : List (Nat × TypeId × List SC) → Prop → Prop
  | [], Q => Q
  | (j, t, cs) :: l, Q => w.heap[e.N j]? = some (.cells (cellsDen e cs).toArray t (0, 0)) ∧ holds e w l Q

/-- Cells of w from an element's place on. -/
def CellsAt (w : World) (b o : Nat) (cs : List Value) : Prop := ∀ j u, nth cs j = some u → w.cell? ⟨b, o + j, none⟩ = some u

def hasLC (L : List LC) (j : Nat) (e : Env) (xs : List LA) (w : World) : Prop := match nth L j with
  | none => False
  | some c => capp c.ks c.I (lasDen e xs) w ∧ capp c.ks c.m (lasDen e xs) w < c.n

def sat (P : Program) (S : Nat → Prop) (w0 : World) (R : Ending → World → Prop) : Tree → List LC → Env → World → Prop
  | .bad _, _, _, _ => False
  | .cond b t f, L, e, wb => (b.T e → sat P S w0 R t L e wb) ∧ (b.F e → sat P S w0 R f L e wb)
  | .need b t, L, e, wb => b.T e ∧ sat P S w0 R t L e wb
  | .blk t, L, e, wb => ∀ b : Nat, w0.heap.size ≤ b → sat P S w0 R t L (e ++ [.n b]) wb
  | .enter d t, L, e, wb => world S w0 e wb d fun w => sat P S w0 R t L (e ++ [.n w.heap.size]) w
  | .enterT d names t, L, e, wb => world S w0 e wb d fun w => ∃ T : List Nat, (∀ b ∈ T, b < w.heap.size ∧ b ∉ nsDen e names) ∧ sat P S w0 R t L (e ++ [.r w.heap.size T]) w
  | .idx a n i t, L, e, wb => 0 ≤ i.den e ∧ i.den e < (n.den e : Int) ∧ ∃ b o : Nat, a.den e = some ⟨b, o, none⟩ ∧ sat P S w0 R t L (e ++ [.n b, .n o]) wb
  | .nn j t, L, e, wb => (∃ a, e.V j = .pointer (some a)) ∧ sat P S w0 R t L e wb
  | .np j t, L, e, wb => ∃ b o : Nat, e.V j = .pointer (some ⟨b, o, none⟩) ∧ sat P S w0 R t L (e ++ [.n b, .n o]) wb
  | .oc j t, L, e, wb => (e.V j).oneCell' = true ∧ sat P S w0 R t L e wb
  | .load b o x sz off ks cells d lim t, L, e, wb => world S w0 e wb d fun w => exs ks fun l => CellsAt w (e.N b) (e.N o + (x.den e).toNat * sz + off) (cellsDen (e ++ l) cells) ∧
      (match lim with | none => sat P S w0 R t L (e ++ l) w | some (j, D) => (e.N b < e.N j ∧ e.N b ∉ e.L j ++ nsDen e D) ∧ sat P S w0 R t L (e ++ l) w)
  | .look r res ks d lim t, L, e, wb => world S w0 e wb d fun w => exs ks fun l => looks P e lim w (r.den e) (res.den (e ++ l)) ∧ sat P S w0 R t L (e ++ l) w
  | .call f xs res ks d kept hav lim t, L, e, wb => world S w0 e wb d fun w =>
      Calls P f (svsDen e xs).toArray w fun r w' => exs ks fun l => r = .returned (res.den (e ++ l)) ∧ (Fr S w0 w' ∧ Mild (nsDen e kept) w w') ∧ owes e lim w w' (holds (e ++ l) w' hav (sat P S w0 R t L (e ++ l) w'))
  | .callv g xs res ks d kept hav lim t, L, e, wb => world S w0 e wb d fun w =>
      ∃ f as, (do invoke (← Deferred.ofValue (g.den e) (svsDen e xs).toArray).target (← Deferred.ofValue (g.den e) (svsDen e xs).toArray).args : Sem Next).run P w = .ok (.enter f as) w ∧
      Calls P f as w fun r w' => exs ks fun l => r = .returned (res.den (e ++ l)) ∧ (Fr S w0 w' ∧ Mild (nsDen e kept) w w') ∧ owes e lim w w' (holds (e ++ l) w' hav (sat P S w0 R t L (e ++ l) w'))
  | .run r res ks d kept lim t, L, e, wb => world S w0 e wb d fun w => ∃ w', exs ks fun l => (r.den e).run P w = .ok (res.den (e ++ l)) w' ∧ (Fr S w0 w' ∧ Mild (nsDen e kept) w w') ∧ owes e lim w w' (sat P S w0 R t L (e ++ l) w')
  | .store ty p v d kept lim t, L, e, wb => world S w0 e wb d fun w => ∃ w', (Instr.storeAt ty (p.den e) (v.den e)).run P w = .ok () w' ∧ (Fr S w0 w' ∧ Mild (nsDen e kept) w w') ∧ owes e lim w w' (sat P S w0 R t L e w')
  | .loop ks init d hd t, L, e, wb => ∃ (I : Cur ks (World → Prop)) (m : Cur ks (World → Nat)), (world S w0 e wb d fun w => capp ks I (lasDen e init) w) ∧
      alls ks fun l => ∀ w, Fr S w0 w → capp ks I l w → tells (e ++ l) w w hd (sat P S w0 R t (L ++ [⟨ks, I, m, capp ks m l w⟩]) (e ++ l) w)
  | .join ks hd t u, L, e, wb => ∃ (I : Cur ks (World → Prop)) (m : Cur ks (World → Nat)), sat P S w0 R t (L ++ [⟨ks, I, m, 1⟩]) e wb ∧
      alls ks fun l => ∀ w, Fr S w0 w → capp ks I l w → tells (e ++ l) w w hd (sat P S w0 R u (L ++ [⟨ks, I, m, 1⟩]) (e ++ l) w)
  | .back j xs d, L, e, wb => world S w0 e wb d fun w => hasLC L j e xs w
  | .ret v d, _, e, wb => world S w0 e wb d fun w => R (.returned (v.den e)) w
  | .all l r, L, e, wb => sat P S w0 R l L e wb ∧ sat P S w0 R r L e wb

/-! ### The run -/
structure St where
  tm : List (Option SV)
  hp : List (Nat × TypeId × List SC)
  fresh : List Nat
  wr : List Nat
  clean : Bool
  known : List (BE × Bool)
  n : Nat
  lv : Nat
  lim : Option (Nat × List Nat)
  ta : Bool

def ofVal1 : Value → Option SC
  | .bool b => some (.bool (.lit b)) | .int k n => some (.int k (.lit n)) | .string s => some (.str (.lit s))
  | .pointer none => some .nilp | .slice none 0 0 => some (.slice .none (.lit 0) (.lit 0))
  | .nilIface => some .nilIface | .nilFunc => some .nilFunc | _ => none
def ofVals : List Value → Option (List SC)
  | [] => some []
  | v :: l => match ofVal1 v, ofVals l with | some c, some r => some (c :: r) | _, _ => none
def ofVal (v : Value) : Option SV := match v with
  | .agg cs => (ofVals cs.toList).map SV.agg
  | v => (ofVal1 v).map SV.one

def St.get (s : St) (t : Nat) : Option SV := match nth s.tm t with | some (some v) => some v | _ => none
def setN {α : Type} : List α → Nat → α → List α
  | [], _, _ => []
  | _ :: l, 0, x => x :: l
  | y :: l, j + 1, x => y :: setN l j x
def St.put (s : St) (d : Option Nat) (v : Option SV) : St := match d with
  | some t => { s with tm := setN s.tm t v }
  | none => s
def St.ev (s : St) : Operand → Option SV
  | .tmp t => s.get t
  | .const v => ofVal v
  | .global g => some (.one (.glob g))
  | .func f => some (.one (.fn f))
def St.evs (s : St) : List Operand → Option (List SV)
  | [] => some []
  | x :: l => match s.ev x, s.evs l with | some v, some r => some (v :: r) | _, _ => none

def hpGet : List (Nat × TypeId × List SC) → Nat → Option (TypeId × List SC)
  | [], _ => none
  | (j, t, cs) :: l, i => if j = i then some (t, cs) else hpGet l i
def hpSet : List (Nat × TypeId × List SC) → Nat → List SC → List (Nat × TypeId × List SC)
  | [], _, _ => []
  | (j, t, cs) :: l, i, c => if j = i then (j, t, c) :: l else (j, t, cs) :: hpSet l i c
def memN : List Nat → Nat → Bool
  | [], _ => false
  | j :: l, i => if j = i then true else memN l i
def dedup : List Nat → List Nat
  | [] => []
  | j :: l => if memN l j then dedup l else j :: dedup l
def hpNames : List (Nat × TypeId × List SC) → List Nat
  | [] => []
  | (j, _, _) :: l => j :: hpNames l

/-- The blocks that cells lead to by name. -/
def leadsC : List SC → List Nat
  | [] => []
  | .ptr j _ :: l | .slice (.blk j _) _ _ :: l => j :: leadsC l
  | _ :: l => leadsC l
def SV.leads : SV → List Nat
  | .one c => leadsC [c]
  | .agg l => leadsC l
  | .tup l => leadsC (l.map (·.2)).flatten
def leadsV : List SV → List Nat
  | [] => []
  | v :: l => v.leads ++ leadsV l
/-- .. and those that these lead to, n steps. -/
def reach (h : List (Nat × TypeId × List SC)) : Nat → List Nat → List Nat
  | 0, l => l
  | n + 1, l => reach h n (l ++ (h.filter fun b => memN l b.1).flatMap fun b => leadsC b.2.2)
/-- What is told of the blocks that are asked for. -/
def tellOf (s : St) (q : List Nat) : List Nat → List (Bool × Nat × TypeId × List SC)
  | [] => []
  | j :: l => if memN q j then match hpGet s.hp j with
      | some (t, cs) => (memN s.fresh j, j, t, cs) :: tellOf s q l
      | none => tellOf s q l
    else tellOf s q l
def St.dl (s : St) (q : List Nat) : Dl := ⟨s.clean, s.wr, tellOf s (reach s.hp 3 q ++ (if s.ta then s.fresh else [])) (hpNames s.hp)⟩
/-- Behind a world that has been told. -/
def St.told (s : St) (more : Nat) : St := { s with fresh := [], wr := [], clean := true, n := s.n + more }

def St.look (s : St) (b : BE) : Option Bool :=
  let rec go : List (BE × Bool) → Option Bool
    | [] => none
    | (c, v) :: l => if c = b then some v else go l
  go s.known
def BE.neg : BE → BE
  | .lit b => .lit (!b) | .not x => x | .eq x y => .ne x y | .ne x y => .eq x y | .lt x y => .le y x | .le x y => .lt y x | x => .not x
/-- Known to be another number. -/
def clash (x : IE) (n : Int) : List (BE × Bool) → Bool
  | [] => false
  | (.eq y (.lit m), true) :: l => if y = x ∧ m ≠ n then true else clash x n l
  | _ :: l => clash x n l
def St.look2 (s : St) (b : BE) : Option Bool := match b with
  | .eq x (.lit n) => if clash x n s.known then some false else none
  | .ne x (.lit n) => if clash x n s.known then some true else none
  | _ => none
/-- A test: known, or both ways. -/
def split (b : BE) (s : St) (k : Bool → St → Tree) : Tree := match b with
  | .lit v => k v s
  | b => match s.look b with
    | some v => k v s
    | none => match s.look b.neg with
      | some v => k (!v) s
      | none => match s.look2 b with
        | some v => k v s
        | none => .cond b (k true { s with known := (b, true) :: s.known }) (k false { s with known := (b, false) :: s.known })

def shapeOf (P : Program) (t : TypeId) : Option TypeDesc := P.underlying t
mutual
/-- The cells of a type, with new letters. -/
def cellsOf (P : Program) : Nat → TypeId → Nat → Option (List SC × List K)
  | 0, _, _ => none
  | d + 1, t, n => match P.underlying t with
    | some (.int k) => some ([.int k (.var n)], [.i])
    | some .bool => some ([.bool (.var n)], [.b])
    | some .string => some ([.str (.var n)], [.s])
    | some (.slice _) => some ([.slice (.var n) (.var (n + 1)) (.var (n + 2))], [.a, .n, .n])
    | some (.struct fs) => fieldsOf P d (fs.toList.map (·.type)) n
    | some (.array len e) => fieldsOf P d (List.replicate len e) n
    | some (.tuple _) => none
    | some _ => some ([.val n], [.v])
    | none => none
def fieldsOf (P : Program) : Nat → List TypeId → Nat → Option (List SC × List K)
  | 0, _, _ => none
  | _ + 1, [], _ => some ([], [])
  | d + 1, t :: l, n => match cellsOf P d t n with
    | some (c, k) => match fieldsOf P d l (n + k.length) with
      | some (c', k') => some (c ++ c', k ++ k')
      | none => none
    | none => none
end
def isAggB (P : Program) (t : TypeId) : Bool := match P.underlying t with | some (.struct _) | some (.array _ _) => true | _ => false
def compsOf (P : Program) : List TypeId → Nat → Option (List (Bool × List SC) × List K)
  | [], _ => some ([], [])
  | t :: l, n => match cellsOf P 200 t n with
    | some (c, k) => match compsOf P l (n + k.length) with
      | some (c', k') => some ((isAggB P t, c) :: c', k ++ k')
      | none => none
    | none => none
/-- A value of a type, with new letters. -/
def freshOf (P : Program) (t : TypeId) (n : Nat) : Option (SV × List K) := match P.underlying t with
  | some (.tuple ts) => match compsOf P ts.toList n with | some (c, k) => some (.tup c, k) | none => none
  | _ => match cellsOf P 200 t n with
    | some (c, k) => if isAggB P t then some (.agg c, k) else match c with | [x] => some (.one x, k) | _ => none
    | none => none

def putL {α : Type} : List α → Nat → List α → List α      -- 'l' with 'm' laid over it from place j on
  | l, 0, m => m ++ l.drop m.length
  | [], _ + 1, _ => []
  | x :: l, j + 1, m => x :: putL l j m
/-- Cells that are to stand in memory. -/
def oneCells : List SC → Tree → Tree
  | [], t => t
  | .val j :: l, t => .oc j (oneCells l t)
  | .undef :: _, _ => .bad 69
  | _ :: l, t => oneCells l t
def addBlock (t : TypeId) (cs : List SC) (s : St) (k : Nat → St → Tree) : Tree :=
  oneCells cs <| .blk (k s.n { s with hp := (s.n, t, cs) :: s.hp, fresh := s.n :: s.fresh, clean := false, n := s.n + 1 })
def fillS : List (Nat × Nat) → List SC → List (Nat × List SC) → Option (List SC)
  | _, cells, [] => some cells
  | places, cells, (i, c) :: rest => match nth places i with
    | none => none
    | some (off, size) => if c.length = size ∧ off + size ≤ cells.length then fillS places (putL cells off c) rest else none

def arithOf (op : BinOp) (k : IntKind) (x y : IE) (s : St) (k1 : SV → St → Tree) : Tree := match op with
  | .add => k1 (.one (.int k (.wrap' k (.add' x y)))) s
  | .sub => k1 (.one (.int k (.wrap' k (.sub' x y)))) s
  | .mul => k1 (.one (.int k (.wrap' k (.mul' x y)))) s
  | .quo => .need (.ne y (.lit 0)) (k1 (.one (.int k (.wrap k (.tdiv x y)))) s)
  | .rem => .need (.ne y (.lit 0)) (k1 (.one (.int k (.tmod x y))) s)
  | .and | .or | .xor | .andNot => k1 (.one (.int k (.bits op k x y))) s
  | .eql => k1 (.one (.bool (.eq' x y))) s
  | .neq => k1 (.one (.bool (.ne' x y))) s
  | .lss => k1 (.one (.bool (.lt' x y))) s
  | .leq => k1 (.one (.bool (.le' x y))) s
  | .gtr => k1 (.one (.bool (.lt' y x))) s
  | .geq => k1 (.one (.bool (.le' y x))) s
  | .shl | .shr => .bad 1

def calleeOk (P : Program) (f : FuncId) : Bool := match P.funcs[f]? with
  | some fn => !(fn.name == "runtime.NumGoroutine") && !fn.body.isNone
  | none => false
def extOk (P : Program) (f : FuncId) : Bool := match P.funcs[f]? with
  | some fn => fn.body.isNone
  | none => false

def RE.vals : RE → List SV
  | .bi _ _ _ xs | .ext _ xs => xs
  | .conv _ _ x | .fieldAt _ x _ | .loadAt _ x | .range _ x | .next x _ _ => [x]
  | .slice _ x lo hi mx => x :: (lo.toList ++ hi.toList ++ mx.toList)
  | .bin _ _ x y | .index _ x y | .indexAt _ x y | .mkSlice _ x y => [x, y]
  | .mkFunc _ a b => a ++ b
/-- A cell that is a letter below m. -/
def okC (m : Nat) : SC → Bool
  | .int _ (.var j) | .bool (.var j) | .str (.var j) | .val j | .ptr j _ => decide (j < m)
  | .slice (.var a) (.var n) (.var c) => decide (a < m) && decide (n < m) && decide (c < m)
  | _ => false
def okL (m : Nat) : List SC → Bool
  | [] => true
  | c :: l => okC m c && okL m l
def okP (m : Nat) : List (Bool × List SC) → Bool
  | [] => true
  | p :: l => okL m p.2 && okP m l
def okV (m : Nat) : SV → Bool
  | .one c => okC m c
  | .agg l => okL m l
  | .tup l => okP m l
/-- Left to another: what it comes to. -/
def leave (P : Program) (r : RE) (t : TypeId) (dst : Option Nat) (s : St) (k : St → Tree) : Tree := match freshOf P t s.n with
  | some (v, ks) => if okV (s.n + ks.length) v then .run r v ks (s.dl (leadsV r.vals)) (hpNames s.hp) s.lim (k ((s.told ks.length).put dst (some v))) else .bad 7
  | none => .bad 2
def hpDrop (q : List Nat) : List (Nat × TypeId × List SC) → List (Nat × TypeId × List SC)
  | [] => []
  | (j, b) :: l => if memN q j then hpDrop q l else (j, b) :: hpDrop q l
/-- .. of one that may turn the blocks that it is led to: these lose their names. -/
def leaveD (P : Program) (r : RE) (t : TypeId) (dst : Option Nat) (s : St) (k : St → Tree) : Tree := match freshOf P t s.n with
  | some (v, ks) => if okV (s.n + ks.length) v then .run r v ks (s.dl (leadsV r.vals)) (hpNames (hpDrop (leadsV r.vals) s.hp)) s.lim (k ({ s.told ks.length with hp := hpDrop (leadsV r.vals) s.hp }.put dst (some v))) else .bad 7
  | none => .bad 2
/-- .. of one that only looks. -/
def looked (P : Program) (r : RE) (t : TypeId) (dst : Option Nat) (s : St) (k : St → Tree) : Tree := match freshOf P t s.n with
  | some (v, ks) => if okV (s.n + ks.length) v then .look r v ks (s.dl (leadsV r.vals)) s.lim (k ((s.told ks.length).put dst (some v))) else .bad 8
  | none => .bad 5

def without : List Nat → List Nat → List Nat
  | [], _ => []
  | j :: l, m => if memN m j then without l m else j :: without l m

/-- The blocks of 'm', with new letters: those, the kinds, and the whole heap. -/
def havoc (P : Program) (m : List Nat) : List (Nat × TypeId × List SC) → Nat → Option (List (Nat × TypeId × List SC) × List K × List (Nat × TypeId × List SC))
  | [], _ => some ([], [], [])
  | (j, t, cs) :: l, n =>
    if memN m j then match cellsOf P 200 t n with
      | some (c, ks) => if c.length = cs.length then match havoc P m l (n + ks.length) with
        | some (a, k, h) => some ((j, t, c) :: a, ks ++ k, (j, t, c) :: h)
        | none => none else none
      | none => none
    else match havoc P m l n with
      | some (a, k, h) => some (a, k, (j, t, cs) :: h)
      | none => none

def noVal : List SC → Bool
  | [] => true
  | .val _ :: _ => false
  | .undef :: _ => false
  | _ :: l => noVal l
def okB (m : Nat) : List (Nat × TypeId × List SC) → Bool
  | [] => true
  | b :: l => okL m b.2.2 && okB m l
/-- .. of blocks. -/
def onesB : List (Nat × TypeId × List SC) → Tree → Tree
  | [], t => t
  | b :: l, t => oneCells b.2.2 (onesB l t)
def call1 (P : Program) (mk : Dl → List Nat → List (Nat × TypeId × List SC) → SV → List K → Tree → Tree) (q m : List Nat) (t : TypeId) (dst : Option Nat) (s : St) (k : St → Tree) : Tree := match freshOf P t s.n with
  | some (v, ks) => match havoc P m s.hp (s.n + ks.length) with
    | some (hv, hk, h) => if okV (s.n + ks.length) v && okB (s.n + ks.length + hk.length) hv then mk (s.dl q) (without (hpNames s.hp) m) hv v (ks ++ hk) (onesB hv (k ({ s.told (ks.length + hk.length) with hp := h }.put dst (some v)))) else .bad 9
    | none => .bad 4
  | none => .bad 3

/-- The parts of what is built: their cells. -/
def St.parts (s : St) : List (Nat × Operand) → Option (List (Nat × List SC))
  | [] => some []
  | (i, x) :: l => match s.ev x with
    | some (.tup _) => none
    | some v => match s.parts l with | some r => some ((i, v.cells) :: r) | none => none
    | none => none
def partCells : List (Nat × List SC) → List SC
  | [] => []
  | (_, c) :: l => c ++ partCells l
def placesOf (P : Program) : List Field → Option (List (Nat × Nat))
  | [] => some []
  | f :: l => match P.info? f.type with
    | some g => match placesOf P l with | some r => some ((f.offset, g.size) :: r) | none => none
    | none => none
/-- Where an order is open: what may be read early, what may be written. -/
def St.mayRead (s : St) (j : Nat) : Bool := match s.lim with | none => true | some (m, D) => decide (j < m) && !memN D j
def St.mayWrite (s : St) (j : Nat) : Bool := match s.lim with | none => true | some (m, D) => decide (m < j) || memN D j
/-- An element's place that needs no look at memory. -/
def pureIx : SV → SV → Bool
  | .one (.slice _ _ _), .one (.int _ _) => true
  | .one (.ptr _ _), .one (.int _ _) => true
  | .one (.eptr _ _ _ _ _), .one (.int _ (.lit _)) => true
  | _, _ => false
/-- Conversions that only look. -/
def lookConv (P : Program) (src dst : TypeId) : Bool := match P.underlying src, P.underlying dst with
  | some (.slice _), some .string => true
  | some .string, some .string => true
  | _, _ => false
/-- The place in a row of which the number is not known: each in turn. -/
def arrIx (ix : IE) (sz j off : Nat) : Nat → Nat → St → (SV → St → Tree) → Tree
  | 0, q, s, k => .need (.eq ix (.lit (q : Int))) (k (.one (.ptr j (off + q * sz))) s)
  | m + 1, q, s, k => split (.eq ix (.lit (q : Int))) s fun v s => if v then k (.one (.ptr j (off + q * sz))) s else arrIx ix sz j off m (q + 1) s k
def symOp (P : Program) (ws : List FuncId) (o : Oper) (s : St) (k : St → Tree) : Tree := match o.op with
  | .move x | .assign x => match s.ev x with
    | some v => k (s.put o.dst (some v))
    | none => .bad 10
  | .pick c a b => match s.ev c with
    | some (.one (.bool c)) => split c s fun v s => match s.ev (if v then a else b) with
      | some v => k (s.put o.dst (some v))
      | none => .bad 11
    | _ => .bad 12
  | .alloc t => match P.info? t with
    | some i => match i.zero with
      | some z => match ofVal z with
        | some v => addBlock t v.cells s fun j s => k (s.put o.dst (some (.one (.ptr j 0))))
        | none => .bad 13
      | none => .bad 14
    | none => .bad 15
  | .box t x => match s.ev x with
    | some (.tup _) => .bad 16
    | some v => addBlock t v.cells s fun j s => k (s.put o.dst (some (.one (.ptr j 0))))
    | none => .bad 17
  | .load t p => match s.ev p with
    | some (.one (.ptr j off)) => if s.mayRead j = true then match hpGet s.hp j with
      | some (_, cs) =>
        if isAggB P t then match P.info? t with
          | some i => if off + i.size ≤ cs.length then k (s.put o.dst (some (.agg ((cs.drop off).take i.size)))) else .bad 18
          | none => .bad 19
        else match P.underlying t, nth cs off with
          | some _, some c => k (s.put o.dst (some (.one c)))
          | _, _ => .bad 20
      | none => .bad 21
      else .bad 6
    | some (.one (.eptr b o' x sz off)) => match cellsOf P 200 t s.n with
      | some (cs, ks) => if !okL (s.n + ks.length) cs then .bad 70 else
        if isAggB P t then match P.info? t with
          | some i => if i.size = cs.length then .load b o' x sz off ks cs (s.dl []) s.lim (k ((s.told ks.length).put o.dst (some (.agg cs)))) else .bad 22
          | none => .bad 23
        else match P.underlying t, cs with
          | some _, [c] => .load b o' x sz off ks cs (s.dl []) s.lim (k ((s.told ks.length).put o.dst (some (.one c))))
          | _, _ => .bad 24
      | none => .bad 25
    | some p => looked P (.loadAt t p) t o.dst s k
    | none => .bad 26
  | .store t p x => match s.ev p, s.ev x with
    | some (.one (.ptr j off)), some v => match hpGet s.hp j, P.info? t with
      | some (_, cs), some i =>
        if v.cells.length = i.size ∧ off + i.size ≤ cs.length ∧ s.mayWrite j = true then
          match v with
          | .tup _ => .bad 27
          | v => oneCells v.cells <| k { s.put o.dst (some (.one .undef)) with hp := hpSet s.hp j (putL cs off v.cells), wr := if memN s.fresh j || memN s.wr j then s.wr else j :: s.wr, clean := false }
        else .bad 28
      | _, _ => .bad 29
    | some p, some v => .store t p v (s.dl (leadsV [p, v])) (hpNames s.hp) s.lim (k ((s.told 0).put o.dst (some (.one .undef))))
    | _, _ => .bad 30
  | .nilCheck x => match s.ev x with
    | some (.one (.ptr j off)) => k (s.put o.dst (some (.one (.ptr j off))))
    | some (.one (.eptr b o' x sz off)) => k (s.put o.dst (some (.one (.eptr b o' x sz off))))
    | some (.one (.val j)) => .np j (k ({ s with n := s.n + 2 }.put o.dst (some (.one (.eptr s.n (s.n + 1) (.lit 0) 0 0)))))
    | _ => .bad 31
  | .build t parts => match P.info? t with
    | some i => match i.zero with
      | some zv => match ofVal zv with
        | some z => match s.parts parts.toList with
          | some ps => match P.underlying t with
            | some (.struct fs) => match placesOf P fs.toList with
              | some places => match fillS places z.cells ps with
                | some cs => oneCells (partCells ps) (k (s.put o.dst (some (.agg cs))))
                | none => .bad 32
              | none => .bad 33
            | _ => .bad 34
          | none => .bad 35
        | none => .bad 35
      | none => .bad 35
    | none => .bad 36
  | .buildSlice t len parts => match P.underlying t with
    | some (.slice el) => match P.info? el with
      | some i => match i.zero with
        | some zv => match ofVal zv with
          | some z => match s.parts parts.toList with
            | some ps =>
              if z.cells.length = i.size ∧ 0 < i.size ∧ len * i.size ≤ 1000 then
                match fillS ((List.range len).map fun j => (j * i.size, i.size)) (List.replicate len z.cells).flatten ps with
                | some cs => oneCells (partCells ps) (addBlock el cs s fun j s => k (s.put o.dst (some (.one (.slice (.blk j 0) (.lit len) (.lit len))))))
                | none => .bad 37
              else .bad 38
            | none => .bad 39
          | none => .bad 39
        | none => .bad 39
      | none => .bad 40
    | _ => .bad 41
  | .binOp op t x y _ => match s.ev x, s.ev y with
    | some (.one (.int kx a)), some (.one (.int ky b)) => match op with
      | .shl | .shr => match b with
        | .lit n => if 0 ≤ n ∧ n.toNat ≤ kx.bits then k (s.put o.dst (some (.one (.int kx (if op = .shl then .wrap kx (.shl a n.toNat) else .shr a n.toNat))))) else .bad 42
        | _ => looked P (.bin op t (.one (.int kx a)) (.one (.int ky b))) o.type o.dst s k
      | op => if kx = ky then arithOf op kx a b s fun v s => k (s.put o.dst (some v)) else .bad 43
    | some (.one (.str a)), some (.one (.str b)) => match op with
      | .eql => k (s.put o.dst (some (.one (.bool (.seq a b)))))
      | .neq => k (s.put o.dst (some (.one (.bool (.not (.seq a b))))))
      | op => looked P (.bin op t (.one (.str a)) (.one (.str b))) o.type o.dst s k
    | some (.agg a), some (.agg b) => if (op = .eql ∨ op = .neq) ∧ P.eqGuardType P.depth t = false then looked P (.bin op t (.agg a) (.agg b)) o.type o.dst s k else .bad 44
    | some (.one (.bool a)), some (.one (.bool b)) => looked P (.bin op t (.one (.bool a)) (.one (.bool b))) o.type o.dst s k
    | some (.one (.ptr j off)), some (.one .nilp) => looked P (.bin op t (.one (.ptr j off)) (.one .nilp)) o.type o.dst s k
    | some (.one (.val j)), some (.one .nilp) => looked P (.bin op t (.one (.val j)) (.one .nilp)) o.type o.dst s k
    | some (.one (.slice a n c)), some (.one (.slice a' n' c')) => looked P (.bin op t (.one (.slice a n c)) (.one (.slice a' n' c'))) o.type o.dst s k
    | _, _ => .bad 46
  | .unOp op _ x => match op, s.ev x with
    | .not, some (.one (.bool b)) => k (s.put o.dst (some (.one (.bool b.neg))))
    | .neg, some (.one (.int kx a)) => k (s.put o.dst (some (.one (.int kx (.wrap kx (.sub (.lit 0) a))))))
    | .xor, some (.one (.int kx a)) => k (s.put o.dst (some (.one (.int kx (.bits .xor kx (.lit (if kx.signed then -1 else kx.max)) a)))))
    | _, _ => .bad 47
  | .convert src dst x => match s.ev x with
    | some (.one (.int _ a)) => match P.underlying src, P.underlying dst with
      | some (.int _), some (.int kd) => k (s.put o.dst (some (.one (.int kd (.wrap' kd a)))))
      | _, _ => .bad 48
    | some v => if lookConv P src dst then looked P (.conv src dst v) o.type o.dst s k else if src = dst then leaveD P (.conv src dst v) o.type o.dst s k else leave P (.conv src dst v) o.type o.dst s k
    | none => .bad 48
  | .makeSlice t l c => match s.ev l, s.ev c with
    | some l, some c => leave P (.mkSlice t l c) o.type o.dst s k
    | _, _ => .bad 49
  | .makeFunc fn first captured => match s.evs first.toList, s.evs captured.toList with
    | some a, some b => looked P (.mkFunc fn a b) o.type o.dst s k
    | _, _ => .bad 50
  | .slice t x lo hi mx => match s.ev x, (match lo with | some x => (s.ev x).map some | none => some none), (match hi with | some x => (s.ev x).map some | none => some none), (match mx with | some x => (s.ev x).map some | none => some none) with
    | some x, some lo, some hi, some mx => looked P (.slice t x lo hi mx) o.type o.dst s k
    | _, _, _, _ => .bad 51
  | .fieldAddr t x f => match s.ev x, P.underlying t with
    | some v, some (.struct fs) => match fs[f]? with
      | some fd => match P.info? fd.type with
        | some i => if i.size = 0 then .bad 52 else match v with
          | .one (.ptr j off) => k (s.put o.dst (some (.one (.ptr j (off + fd.offset)))))
          | .one (.eptr b o' x sz off) => k (s.put o.dst (some (.one (.eptr b o' x sz (off + fd.offset)))))
          | v => looked P (.fieldAt t v f) o.type o.dst s k
        | none => .bad 53
      | none => .bad 54
    | _, _ => .bad 55
  | .field t x f => match s.ev x, P.underlying t with
    | some (.agg cs), some (.struct fs) => match fs[f]? with
      | some fd => match P.info? fd.type with
        | some i => if isAggB P fd.type then (if fd.offset + i.size ≤ cs.length then k (s.put o.dst (some (.agg ((cs.drop fd.offset).take i.size)))) else .bad 56)
          else match P.underlying fd.type, nth cs fd.offset with
            | some _, some c => k (s.put o.dst (some (.one c)))
            | _, _ => .bad 57
        | none => .bad 58
      | none => .bad 59
    | _, _ => .bad 60
  | .indexAddr t x i => match s.ev x, s.ev i, P.underlying t with
    | some (.one (.slice a n c)), some (.one (.int ik ix)), some (.slice el) => match P.info? el with
      | some inf => match a, n, ix with
        | .blk j off, .lit len, .lit q => if 0 ≤ q ∧ q < (len : Int) then k (s.put o.dst (some (.one (.ptr j (off + q.toNat * inf.size))))) else .bad 61
        | a, n, ix => .idx a n ix (k ({ s with n := s.n + 2 }.put o.dst (some (.one (.eptr s.n (s.n + 1) ix inf.size 0)))))
      | none => .bad 62
    | some (.one (.ptr j off)), some (.one (.int ik (.lit q))), some (.array len el) => match P.info? el with
      | some inf => if 0 ≤ q ∧ q < (len : Int) then k (s.put o.dst (some (.one (.ptr j (off + q.toNat * inf.size))))) else .bad 63
      | none => .bad 64
    | some (.one (.ptr j off)), some (.one (.int ik ix)), some (.array len el) => match P.info? el with
      | some inf => if 0 < len ∧ len ≤ 8 then arrIx ix inf.size j off (len - 1) 0 s fun v s => k (s.put o.dst (some v)) else .bad 63
      | none => .bad 64
    | some (.one (.eptr b o' x sz off)), some (.one (.int ik (.lit q))), some (.array len el) => match P.info? el with
      | some inf => if 0 ≤ q ∧ q < (len : Int) then k (s.put o.dst (some (.one (.eptr b o' x sz (off + q.toNat * inf.size))))) else .bad 63
      | none => .bad 64
    | some x, some i, some _ => if pureIx x i then .bad 65 else looked P (.indexAt t x i) o.type o.dst s k
    | _, _, _ => .bad 65
  | .index t x i => match s.ev x, s.ev i with
    | some x, some i => looked P (.index t x i) o.type o.dst s k
    | _, _ => .bad 66
  | .range t x => match s.ev x with
    | some x => leave P (.range t x) o.type o.dst s k
    | none => .bad 67
  | .next x str => match s.ev x with
    | some x => leave P (.next x str o.type) o.type o.dst s k
    | none => .bad 68
  | .extract x i => match s.ev x with
    | some (.tup l) => match nth l i with
      | some (true, cs) => k (s.put o.dst (some (.agg cs)))
      | some (false, [c]) => k (s.put o.dst (some (.one c)))
      | _ => .bad 69
    | _ => .bad 70
  | .call c => match s.evs c.args.toList with
    | some xs => match c.callee with
      | .builtin b => match b, xs with
        | .len, [.one (.slice _ n _)] => match (c.argTypes[0]?).map P.underlying with
          | some (some (.slice _)) => k (s.put o.dst (some (.one (.int .i64 n.ie))))
          | _ => .bad 71
        | .len, [.one (.str x)] => match (c.argTypes[0]?).map P.underlying with
          | some (some .string) => k (s.put o.dst (some (.one (.int .i64 (.ssz x)))))
          | _ => .bad 72
        | .cap, xs | .min, xs | .max, xs => looked P (.bi b c.argTypes o.type xs) o.type o.dst s k
        | .append, xs | .copy, xs => leave P (.bi b c.argTypes o.type xs) o.type o.dst s k
        | _, _ => .bad 73
      | .value (.func f) =>
        if calleeOk P f then call1 P (fun d kp hv v ks t => .call f xs v ks d kp hv s.lim t) (leadsV xs) (if memN ws f then leadsV xs else []) o.type o.dst s k
        else if extOk P f then leave P (.ext f xs) o.type o.dst s k else .bad 74
      | .value g => match s.ev g with
        | some g => call1 P (fun d kp hv v ks t => .callv g xs v ks d kp hv s.lim t) (leadsV (g :: xs)) [] o.type o.dst s k
        | none => .bad 75
      | _ => .bad 76
    | none => .bad 77
  | _ => .bad 78

/-! ### Code -/
inductive Ex where
  | normal | exit (id : Nat) | ret

/-- The value that a guard asks for, if it is known or can be told apart. -/
def guarded (ops : List Oper) (g : Option (Nat × Bool)) (s : St) (k : Bool → St → Tree) : Tree := match g with
  | none => k true s
  | some (j, want) => match nth ops j with
    | some o => match o.dst with
      | some t => match s.get t with
        | some (.one (.bool b)) => split b s fun v s => k (v == want) s
        | some (.one .undef) => k false s
        | _ => .bad 80
      | none => .bad 81
    | none => .bad 82
def symOps (P : Program) (ws : List FuncId) (ops : List Oper) : List Oper → St → (St → Tree) → Tree
  | [], s, k => k s
  | o :: l, s, k => guarded ops o.guard s fun w s => if w then symOp P ws o s fun s => symOps P ws ops l s k else symOps P ws ops l (s.put o.dst (some (.one .undef))) k

/-! A loop's head -/
structure Ann where
  key : Nat
  slots : List Nat
  cells : List (Nat × Nat)
  un : Nat

def Code.key : Code → Option Nat
  | .region id _ _ => some id
  | .seq a b => match Code.key a with | some i => some i | none => Code.key b
  | .cond _ a b => match Code.key a with | some i => some i | none => Code.key b
  | .block _ c | .loop c | .scope c => Code.key c
  | _ => none
def dstsO : List Oper → List Nat
  | [] => []
  | o :: l => match o.dst with | some d => d :: dstsO l | none => dstsO l
def dsts : Code → List Nat
  | .region _ ops _ => dstsO ops.toList
  | .seq a b => dsts a ++ dsts b
  | .cond _ a b => dsts a ++ dsts b
  | .block _ c | .loop c | .scope c => dsts c
  | _ => []

/-- A cell with new letters: the cell, the kinds, what stood there. -/
def loosenC (c : SC) (n : Nat) : SC × List K × List LA := match c with
  | .int k x => (.int k (.var n), [.i], [.i x])
  | .bool b => (.bool (.var n), [.b], [.b b])
  | .str x => (.str (.var n), [.s], [.s x])
  | .slice a l c => (.slice (.var n) (.var (n + 1)) (.var (n + 2)), [.a, .n, .n], [.a a, .n l, .n c])
  | c => (.val n, [.v], [.v c])
def loosenL : List SC → Nat → List SC × List K × List LA
  | [], _ => ([], [], [])
  | c :: l, n => let (c', k, x) := loosenC c n; let (l', k', x') := loosenL l (n + k.length); (c' :: l', k ++ k', x ++ x')
def loosenV (v : SV) (n : Nat) : Option (SV × List K × List LA) := match v with
  | .one c => let (c', k, x) := loosenC c n; some (.one c', k, x)
  | .agg l => let (l', k, x) := loosenL l n; some (.agg l', k, x)
  | .tup _ => none
/-- What now stands in their places. -/
def bindC (p c : SC) : List LA := match p, c with
  | .int _ _, .int _ x => [.i x]
  | .bool _, .bool b => [.b b]
  | .str _, .str x => [.s x]
  | .slice _ _ _, .slice a l c => [.a a, .n l, .n c]
  | _, c => [.v c]
def bindL : List SC → List SC → List LA
  | p :: l, c :: m => bindC p c ++ bindL l m
  | _, _ => []
def dropSlots : List (Option SV) → Nat → List Nat → List (Option SV)
  | [], _, _ => []
  | v :: l, j, d => (if memN d j then none else v) :: dropSlots l (j + 1) d
def looseSlots : List Nat → St → Option (St × List K × List LA)
  | [], s => some (s, [], [])
  | t :: l, s => match s.get t with
    | some v => match loosenV v s.n with
      | some (v', k, x) => match looseSlots l { s.put (some t) (some v') with n := s.n + k.length } with
        | some (s', k', x') => some (s', k ++ k', x ++ x')
        | none => none
      | none => none
    | none => none
/-- The block that a slot leads to. -/
def blockAt (s : St) (t : Nat) : Option Nat := match s.get t with | some (.one (.ptr j _)) => some j | _ => none
def looseCells : List (Nat × Nat) → St → Option (St × List K × List LA)
  | [], s => some (s, [], [])
  | (t, i) :: l, s => match blockAt s t with
    | some j => match hpGet s.hp j with
      | some (_, cs) => match nth cs i with
        | some c => let (c', k, x) := loosenC c s.n
          match looseCells l { s with hp := hpSet s.hp j (setN cs i c'), n := s.n + k.length } with
          | some (s', k', x') => some (s', k ++ k', x ++ x')
          | none => none
        | none => none
      | none => none
    | none => none
def bindSlots (h s : St) : List Nat → List LA
  | [] => []
  | t :: l => (match h.get t, s.get t with | some (.one p), some (.one c) => bindC p c | some (.agg p), some (.agg c) => bindL p c | _, _ => []) ++ bindSlots h s l
def bindCells (h s : St) : List (Nat × Nat) → List LA
  | [] => []
  | (t, i) :: l => (match blockAt h t with
    | some j => match hpGet h.hp j, hpGet s.hp j with
      | some (_, p), some (_, c) => match nth p i, nth c i with
        | some p, some c => bindC p c
        | _, _ => []
      | _, _ => []
    | none => []) ++ bindCells h s l

/-! Terms at a loop's head, with the letters from n on in the place of others -/
def laI (l : List LA) (j : Nat) : Option IE := match nth l j with | some (.i x) => some x | _ => none
def SE.sub (n : Nat) (l : List LA) : SE → Option SE
  | .lit s => some (.lit s)
  | .var j => if j < n then some (.var j) else match nth l (j - n) with | some (.s x) => some x | _ => none
  | .app x y => match x.sub n l, y.sub n l with | some a, some b => some (.app a b) | _, _ => none
def IE.sub_ (n : Nat) (l : List LA) : IE → Option IE
  | .lit x => some (.lit x)
  | .var j => if j < n then some (.var j) else match nth l (j - n) with | some (.i x) => some x | _ => none
  | .nat j => if j < n then some (.nat j) else match nth l (j - n) with | some (.n x) => some x.ie | _ => none
  | .add x y => match x.sub_ n l, y.sub_ n l with | some a, some b => some (.add a b) | _, _ => none
  | .sub x y => match x.sub_ n l, y.sub_ n l with | some a, some b => some (.sub a b) | _, _ => none
  | .mul x y => match x.sub_ n l, y.sub_ n l with | some a, some b => some (.mul a b) | _, _ => none
  | .wrap k x => match x.sub_ n l with | some a => some (.wrap k a) | _ => none
  | .bits op k x y => match x.sub_ n l, y.sub_ n l with | some a, some b => some (.bits op k a b) | _, _ => none
  | .tdiv x y => match x.sub_ n l, y.sub_ n l with | some a, some b => some (.tdiv a b) | _, _ => none
  | .tmod x y => match x.sub_ n l, y.sub_ n l with | some a, some b => some (.tmod a b) | _, _ => none
  | .shr x m => match x.sub_ n l with | some a => some (.shr a m) | _ => none
  | .shl x m => match x.sub_ n l with | some a => some (.shl a m) | _ => none
  | .ssz s => match s.sub n l with | some a => some (.ssz a) | _ => none
def BE.sub (n : Nat) (l : List LA) : BE → Option BE
  | .lit b => some (.lit b)
  | .var j => if j < n then some (.var j) else match nth l (j - n) with | some (.b x) => some x | _ => none
  | .eq x y => match x.sub_ n l, y.sub_ n l with | some a, some b => some (.eq a b) | _, _ => none
  | .ne x y => match x.sub_ n l, y.sub_ n l with | some a, some b => some (.ne a b) | _, _ => none
  | .lt x y => match x.sub_ n l, y.sub_ n l with | some a, some b => some (.lt a b) | _, _ => none
  | .le x y => match x.sub_ n l, y.sub_ n l with | some a, some b => some (.le a b) | _, _ => none
  | .not x => match x.sub n l with | some a => some (.not a) | _ => none
  | .seq x y => match x.sub n l, y.sub n l with | some a, some b => some (.seq a b) | _, _ => none
  | .and x y => match x.sub n l, y.sub n l with | some a, some b => some (.and a b) | _, _ => none
  | .or x y => match x.sub n l, y.sub n l with | some a, some b => some (.or a b) | _, _ => none
def AE.sub (n : Nat) (l : List LA) : AE → Option AE
  | .none => some .none
  | .var j => if j < n then some (.var j) else match nth l (j - n) with | some (.a x) => some x | _ => Option.none
  | .blk j off => if j < n then some (.blk j off) else Option.none
def NE.sub (n : Nat) (l : List LA) : NE → Option NE
  | .lit x => some (.lit x)
  | .var j => if j < n then some (.var j) else match nth l (j - n) with | some (.n x) => some x | _ => none
def SC.sub (n : Nat) (l : List LA) : SC → Option SC
  | .int k x => (x.sub_ n l).map (.int k)
  | .bool x => (x.sub n l).map .bool
  | .str x => (x.sub n l).map .str
  | .ptr j off => if j < n then some (.ptr j off) else none
  | .slice a x y => match a.sub n l, x.sub n l, y.sub n l with | some a, some x, some y => some (.slice a x y) | _, _, _ => none
  | .eptr b o x sz off => if b < n ∧ o < n then (x.sub_ n l).map fun x => .eptr b o x sz off else none
  | .val j => if j < n then some (.val j) else match nth l (j - n) with | some (.v x) => some x | _ => none
  | c => some c
def subC (n : Nat) (l : List LA) : List SC → Option (List SC)
  | [] => some []
  | c :: r => match c.sub n l, subC n l r with | some a, some b => some (a :: b) | _, _ => none
def subP (n : Nat) (l : List LA) : List (Bool × List SC) → Option (List (Bool × List SC))
  | [] => some []
  | (b, c) :: r => match subC n l c, subP n l r with | some a, some m => some ((b, a) :: m) | _, _ => none
def SV.sub (n : Nat) (l : List LA) : SV → Option SV
  | .one c => (c.sub n l).map .one
  | .agg c => (subC n l c).map .agg
  | .tup c => (subP n l c).map .tup
/-- The slots of the head are, with these in the letters' places, what the slots now hold. -/
def fitTm (n : Nat) (l : List LA) : List (Option SV) → List (Option SV) → Bool
  | [], [] => true
  | none :: h, _ :: s => fitTm n l h s
  | some v :: h, some u :: s => decide (v.sub n l = some u) && fitTm n l h s
  | _, _ => false
def fitHp (n : Nat) (l : List LA) (s : List (Nat × TypeId × List SC)) : List (Nat × TypeId × List SC) → Bool
  | [] => true
  | (j, t, cs) :: h => decide (j < n) && (match hpGet s j with | some (t', cs') => decide (t' = t) && decide (subC n l cs = some cs') | none => false) && fitHp n l s h
def isSet (s : St) (t : Nat) : Bool := match s.get t with | none => false | some (.one .undef) => false | some (.tup _) => false | some _ => true
/-- Of what a loop's letters are: the variables that it assigns to, and what else is named. -/
def autoAnn (s : St) (c : Code) (an : Ann) : Ann := ⟨an.key, dedup (((dsts c).filter (isSet s)) ++ an.slots), an.cells, an.un⟩
def fits (n : Nat) (l : List LA) (h s : St) : Bool := fitTm n l h.tm s.tm && fitHp n l s.hp h.hp
def annOf : List Ann → Nat → Ann
  | [], _ => ⟨0, [], [], 0⟩
  | a :: l, k => if a.key = k then a else annOf l k

def lasLeads : List LA → List Nat
  | [] => []
  | .v c :: l => leadsC [c] ++ lasLeads l
  | .a (.blk j _) :: l => j :: lasLeads l
  | _ :: l => lasLeads l
/-- The head of a loop: its state, the kinds of its letters, what they are at first. -/
def headOf (s : St) (an : Ann) (ds : List Nat) : Option (St × List K × List LA) :=
  match looseSlots an.slots s with
  | some (s1, k1, x1) => match looseCells an.cells s1 with
    | some (s2, k2, x2) => some ({ s2 with tm := dropSlots s2.tm 0 (without ds an.slots), fresh := [], wr := [], clean := true, known := [], lv := s.lv + 1, lim := none }, k1 ++ k2, x1 ++ x2)
    | none => none
  | none => none
def headTell (an : Ann) (h : St) : List (Bool × Nat × TypeId × List SC) := tellOf h (an.cells.filterMap fun p => blockAt h p.1) (hpNames h.hp)
def LA.kind : LA → K
  | .i _ => .i | .b _ => .b | .s _ => .s | .v _ => .v | .n _ => .n | .a _ => .a

/-! ### A region whose order is open: what only looks comes first, as soon as it may; then the one that may come up. -/
def pureOp (s : St) (o : Oper) : Bool := match o.op with
  | .move _ | .assign _ | .pick _ _ _ | .build _ _ | .unOp _ _ _ | .extract _ _ | .field _ _ _ | .nilCheck _ => true
  | .fieldAddr _ x _ => match s.ev x with | some (.one (.ptr _ _)) | some (.one (.eptr _ _ _ _ _)) => true | _ => false
  | .indexAddr _ x i => match s.ev x, s.ev i with | some x, some i => pureIx x i | _, _ => false
  | .binOp op _ x y _ => match s.ev x, s.ev y with
    | some (.one (.int _ _)), some (.one (.int _ b)) => match op, b with
      | .shl, .lit _ | .shr, .lit _ => true
      | .shl, _ | .shr, _ => false
      | _, _ => true
    | some (.one (.str _)), some (.one (.str _)) => match op with | .eql | .neq => true | _ => false
    | _, _ => false
  | .convert _ _ x => match s.ev x with | some (.one (.int _ _)) => true | _ => false
  | .call c => match c.callee with
    | .builtin .len => true
    | _ => false
  | _ => false
/-- .. and those that look at the world. -/
def lookOp (P : Program) (s : St) (o : Oper) : Bool := match o.op with
  | .load _ _ | .index _ _ _ | .slice _ _ _ _ _ | .fieldAddr _ _ _ | .indexAddr _ _ _ | .binOp _ _ _ _ _ => true
  | .convert src dst _ => lookConv P src dst
  | .call c => match c.callee with
    | .builtin .cap | .builtin .min | .builtin .max => true
    | _ => false
  | _ => false
/-- Does it look at memory, by its kind? (For the last ones.) -/
def lookKind (P : Program) (o : Oper) : Bool := match o.op with
  | .load _ _ => true
  | .convert src dst _ => match P.underlying src, P.underlying dst with | some (.slice _), some .string => true | _, _ => false
  | _ => false
def findI (p : Nat → Bool) : List Nat → Option Nat
  | [] => none
  | i :: l => if p i then some i else findI p l
def finKind (o : Oper) : Bool := match o.op with
  | .store _ _ _ => true
  | .call c => match c.callee with
    | .builtin b => match b with
      | .append | .copy => true
      | _ => false
    | _ => true
  | _ => false
/-- The last ones: what turns memory and waits for all that look. -/
def finsOf (P : Program) (ops : List Oper) : List Nat :=
  let lk := (List.range ops.length).filter fun i => match nth ops i with | some o => lookKind P o | none => false
  (List.range ops.length).filter fun i => match nth ops i with
    | some o => finKind o && lk.all fun j => j != i && (depC .any ops.toArray j).contains i
    | none => false
/-- A guarded one that is known to be passed over. -/
def passed (s : St) (ops : List Oper) (o : Oper) : Bool := match o.guard with
  | none => false
  | some (j, want) => match nth ops j with
    | none => false
    | some q => match q.dst with
      | none => false
      | some t => match s.get t with
        | some (.one (.bool (.lit b))) => b != want
        | some (.one .undef) => true
        | _ => false
def mayTake (P : Program) (opa : Array Oper) (ops : List Oper) (fin : List Nat) (listed : Array Bool) (fd : Bool) (s : St) (i : Nat) : Bool := match nth ops i with
  | some o => Region.free .any opa listed i && !memN fin i && (pureOp s o || (!fd && lookOp P s o && finWait .any opa fin listed i) || passed s ops o)
  | none => false
def allOf : List Tree → Tree
  | [] => .bad 87
  | [t] => t
  | t :: l => .all t (allOf l)
def symDraw (P : Program) (ws : List FuncId) (opa : Array Oper) (ops : List Oper) (fin : List Nat) : Nat → Array Bool → Bool → St → (St → Tree) → Tree
  | 0, listed, _, s, k => match Region.ready .any opa listed with
    | [] => k s
    | _ => .bad 83
  | n + 1, listed, fd, s, k =>
    let rs := Region.ready .any opa listed
    match rs with
    | [] => k s
    | _ => match findI (mayTake P opa ops fin listed fd s) rs with
      | some i => match nth ops i with
        | some o => guarded ops o.guard s fun w s => if w then
              (if pureOp s o || (!fd && lookOp P s o && finWait .any opa fin listed i) then symOp P ws o s fun s => symDraw P ws opa ops fin n (listed.setIfInBounds i true) fd s k else .bad 84)
            else symDraw P ws opa ops fin n (listed.setIfInBounds i true) fd (s.put o.dst (some (.one .undef))) k
        | none => .bad 85
      | none => allOf (rs.map fun i => match nth ops i with
          | some o => guarded ops o.guard s fun w s => if w then
                symOp P ws o (if fd || memN fin i then { s with lim := none } else s) fun s => symDraw P ws opa ops fin n (listed.setIfInBounds i true) (fd || memN fin i) s k
              else symDraw P ws opa ops fin n (listed.setIfInBounds i true) (fd || memN fin i) (s.put o.dst (some (.one .undef))) k
          | none => .bad 86)

def subN : List Nat → List Nat → Bool
  | [], _ => true
  | j :: l, m => memN m j && subN l m
/-- The block that a slot will lead to, through the operations of a region. -/
def rootOf (s : St) (ops : List Oper) : Nat → Nat → Option Nat
  | 0, _ => none
  | n + 1, t => match ops.find? (fun o => o.dst == some t) with
    | some o => match o.op with
      | .fieldAddr _ (.tmp q) _ | .indexAddr _ (.tmp q) _ | .nilCheck (.tmp q) | .move (.tmp q) => rootOf s ops n q
      | _ => none
    | none => match s.get t with
      | some (.one (.ptr j _)) => some j
      | _ => none
/-- The named blocks that a region writes, but in its last ones; those handed to a call that writes among them. -/
def named (s : St) (ops : List Oper) (x : Operand) : List Nat := match x with
  | .tmp q => match rootOf s ops 5 q with
    | some j => if memN (hpNames s.hp) j then [j] else []
    | none => []
  | _ => []
def writes (s : St) (ws : List FuncId) (ops : List Oper) (fin : List Nat) : List Nat := dedup ((List.range ops.length).flatMap fun i => if memN fin i then [] else match nth ops i with
  | some o => match o.op with
    | .store _ p _ => named s ops p
    | .call c => match c.callee with
      | .value (.func f) => if ws.any (· == f) then c.args.toList.flatMap (named s ops) else []
      | _ => []
    | _ => []
  | none => [])
/-- A loop, round by round: no more than n of them. -/
def unroll (body : St → (Ex → St → Tree) → Tree) (k : Ex → St → Tree) : Nat → St → Tree
  | 0, _ => .bad 87
  | n + 1, s => body s fun e s2 => match e with
    | .normal => unroll body k n s2
    | e => k e s2
def sym (P : Program) (ws : List FuncId) (as : List Ann) : Code → St → (Ex → St → Tree) → Tree
  | .skip, s, k => k .normal s
  | .region _ ops draw, s, k => if draw then
      (let l := ops.toList
       if Region.noSelect ops && P.follows .mixedOrders && noFin (finsOf P l) (Array.replicate l.length false) && subN (writes s ws l (finsOf P l)) (hpNames s.hp) then
         (fun t => if as.any (fun a => a.key == 999998) then .enterT (s.dl []) (hpNames s.hp) t else .enter (s.dl []) t) (symDraw P ws ops l (finsOf P l) l.length (Array.replicate l.length false) false { s.told 1 with clean := false, lim := some (s.n, writes s ws l (finsOf P l)) } fun s => k .normal { s with lim := none })
       else .bad 90) else symOps P ws ops.toList ops.toList s (k .normal)
  | .seq a b, s, k => if (annOf as ((Code.key b).getD 0 + 1000000)).key = 0 then (sym P ws as a s fun e s => match e with
    | .normal => sym P ws as b s k
    | e => k e s) else
    let an := autoAnn s a (annOf as ((Code.key b).getD 0 + 1000000))
    match headOf s an (dsts a) with
    | some (h, ks, _) => if !decide (h.n = s.n + ks.length) then .bad 95 else
      .join ks (headTell an h) (sym P ws as a { s with lv := s.lv + 1 } fun e s2 => match e with
      | .normal =>
        let ys := bindSlots h s2 an.slots ++ bindCells h s2 an.cells
        if fits s.n ys h s2 && decide (ys.map LA.kind = ks) then .back s.lv ys (s2.dl (lasLeads ys)) else .bad 96
      | e => k e s2) (sym P ws as b h k)
    | none => .bad 97
  | .cond c a b, s, k => match s.ev c with
    | some (.one (.bool x)) => split x s fun v s => if v then sym P ws as a s k else sym P ws as b s k
    | _ => .bad 91
  | .block id c, s, k => sym P ws as c s fun e s => match e with
    | .exit i => if i = id then k .normal s else k (.exit i) s
    | e => k e s
  | .exit id, s, k => k (.exit id) s
  | .ret, s, k => k .ret s
  | .label _, s, k => k .normal s
  | .loop c, s, k => if 0 < (annOf as ((Code.key c).getD 0)).un then unroll (sym P ws as c) k (annOf as ((Code.key c).getD 0)).un s else
    let an := autoAnn s c (annOf as ((Code.key c).getD 0))
    match headOf s an (dsts c) with
    | some (h, ks, xs) => if !(fits s.n xs h s && decide (xs.map LA.kind = ks) && decide (h.n = s.n + ks.length)) then .bad 88 else
      .loop ks xs (s.dl []) (headTell an h) (sym P ws as c h fun e s2 => match e with
      | .normal =>
        let ys := bindSlots h s2 an.slots ++ bindCells h s2 an.cells
        if fits s.n ys h s2 && decide (ys.map LA.kind = ks) then .back s.lv ys (s2.dl (lasLeads ys)) else .bad 92
      | e => k e s2)
    | none => .bad 93
  | _, _, _ => .bad 94

/-! ### A function -/
def resultOf (P : Program) (s : St) : ResultVar → Option SV
  | .tmp t => s.get t
  | .cell a t => match s.get a with
    | some (.one (.ptr j off)) => match hpGet s.hp j with
      | some (_, cs) =>
        if isAggB P t then match P.info? t with
          | some i => if off + i.size ≤ cs.length then some (.agg ((cs.drop off).take i.size)) else none
          | none => none
        else match P.underlying t, nth cs off with
          | some _, some c => some (.one c)
          | _, _ => none
      | none => none
    | _ => none
def resultsOf (P : Program) (s : St) : List ResultVar → Option (List SV)
  | [] => some []
  | r :: l => match resultOf P s r, resultsOf P s l with | some v, some m => some (v :: m) | _, _ => none
def compOf : SV → Option (Bool × List SC)
  | .one c => some (false, [c])
  | .agg l => some (true, l)
  | .tup _ => none
def compsOfV : List SV → Option (List (Bool × List SC))
  | [] => some []
  | v :: l => match compOf v, compsOfV l with | some c, some m => some (c :: m) | _, _ => none
def retOf (P : Program) (fn : Func) (s : St) : Tree := match resultsOf P s fn.results.toList with
  | some [v] => .ret v (s.dl v.leads)
  | some vs => match compsOfV vs with
    | some c => .ret (.tup c) (s.dl (SV.leads (.tup c)))
    | none => .bad 95
  | none => .bad 96
def symFn (P : Program) (ws : List FuncId) (as : List Ann) (f : FuncId) (n : Nat) (xs : List SV) (hp : List (Nat × TypeId × List SC)) : Tree := match P.funcs[f]? with
  | some fn => match fn.body with
    | some c => sym P ws as c { tm := xs.map some ++ List.replicate (fn.ntmps - xs.length) (some (.one .undef)), hp := hp, fresh := [], wr := [], clean := true, known := [], n := n, lv := 0, lim := none, ta := as.any fun a => a.key == 999999 } fun e s => match e with
      | .normal | .ret => retOf P fn s
      | .exit _ => .bad 97
    | none => .bad 98
  | none => .bad 99
end Go.Sx
