/-
  No cell of these rows narrows 'for every input' (looked for: loops, veiled, ifaces, maps, wideKeys, modest, calm, conditions, laid).
  DERIVED. THE GIVEN ROWS OF THIS SEAT. 6 by the template 'for every input the law returns true; each argument reads behind the call as it read before'; 0 by the template 'total and deterministic' (their statements: YtlcjlcfogcbddaaTotals.lean).
  GIVEN WITH THE SEED: the statements are not yours to turn. If you find one false, say at which input.
  Laid BY PROGRAM, IN A SANDBOX (cutbox-rows.mjs): the forced cells as the released guide's own fill.sh prints them over the translation d4f5ab948220f9f5… (all of the seat's roots in one cut). By AI agents, Wed Nov 11 2026. No macro, syntax, notation, axiom, sorry.
-/
import Derived.Test.YtlcjlcfogcbddaaChecked
import GoSem.Claim
import GoSem.ClaimJoined
import GoSem.ClaimMapViews
import Derived.JoinedTies
import Derived.KernelRfl
namespace Go.Proofs.Ytlcjlcfogcbddaa
/- THE CELL 'sum', in the pinned program and in every row, IS THE sha256 OF THE DUMP (.gsa) THAT YtlcjlcfogcbddaaProg.lean LOADS. Nothing in Lean hashes anything: it is a label: what it is worth is what the hold of that sum in a sandbox is worth. -/
noncomputable def Try.pinned : Pinned := { name := "ytlcjlcfogcbddaa", sum := "d4f5ab948220f9f50a76d02dc4fa0ffd4a30a1ef8daad8dcc14ca5c0520f7956", checked := Try.checked }
namespace Rows
def none {H : Type} : Left H := { results := [], args := [] }

/-- 'tracerylaw09.OpZero': WHATEVER THE INPUT: true; the input reads as it did. -/
def opZeroSpec : ChangeSpec := { name := "opZero", fn := fun _ => fun
  | [d1, d2, d3] => { results := [.lit (.bool true)], args := [d1, d2, d3] }
  | _ => none }
def opZeroRow : OpenClaim := { program := "ytlcjlcfogcbddaa", sum := "d4f5ab948220f9f50a76d02dc4fa0ffd4a30a1ef8daad8dcc14ca5c0520f7956", func := "tracery/tracerylaw09.OpZero", spec := "opZero", apart := false }
def OpZeroSaid : Prop := opZeroRow.holds Try.pinned (OpenSpec.ofChange opZeroSpec)

/-- ITS FALSE NEIGHBOUR: 'it returns false'. Refute it at one input. -/
def opZeroWrong : ChangeSpec := { name := "opZero", fn := fun _ => fun
  | [d1, d2, d3] => { results := [.lit (.bool false)], args := [d1, d2, d3] }
  | _ => none }
def OpZeroWrongFalsely : Prop := opZeroRow.holds Try.pinned (OpenSpec.ofChange opZeroWrong)

/-- 'tracerylaw09.OpKinds': WHATEVER THE INPUT: true; the input reads as it did. -/
def opKindsSpec : ChangeSpec := { name := "opKinds", fn := fun _ => fun
  | [d1, d2] => { results := [.lit (.bool true)], args := [d1, d2] }
  | _ => none }
def opKindsRow : OpenClaim := { program := "ytlcjlcfogcbddaa", sum := "d4f5ab948220f9f50a76d02dc4fa0ffd4a30a1ef8daad8dcc14ca5c0520f7956", func := "tracery/tracerylaw09.OpKinds", spec := "opKinds", apart := false }
def OpKindsSaid : Prop := opKindsRow.holds Try.pinned (OpenSpec.ofChange opKindsSpec)

/-- ITS FALSE NEIGHBOUR: 'it returns false'. Refute it at one input. -/
def opKindsWrong : ChangeSpec := { name := "opKinds", fn := fun _ => fun
  | [d1, d2] => { results := [.lit (.bool false)], args := [d1, d2] }
  | _ => none }
def OpKindsWrongFalsely : Prop := opKindsRow.holds Try.pinned (OpenSpec.ofChange opKindsWrong)

/-- 'tracerylaw09.OpParts': WHATEVER THE INPUT: true; the input reads as it did. -/
def opPartsSpec : ChangeSpec := { name := "opParts", fn := fun _ => fun
  | [d1, d2] => { results := [.lit (.bool true)], args := [d1, d2] }
  | _ => none }
def opPartsRow : OpenClaim := { program := "ytlcjlcfogcbddaa", sum := "d4f5ab948220f9f50a76d02dc4fa0ffd4a30a1ef8daad8dcc14ca5c0520f7956", func := "tracery/tracerylaw09.OpParts", spec := "opParts", apart := false }
def OpPartsSaid : Prop := opPartsRow.holds Try.pinned (OpenSpec.ofChange opPartsSpec)

/-- ITS FALSE NEIGHBOUR: 'it returns false'. Refute it at one input. -/
def opPartsWrong : ChangeSpec := { name := "opParts", fn := fun _ => fun
  | [d1, d2] => { results := [.lit (.bool false)], args := [d1, d2] }
  | _ => none }
def OpPartsWrongFalsely : Prop := opPartsRow.holds Try.pinned (OpenSpec.ofChange opPartsWrong)

/-- 'tracerylaw09.OpNames': WHATEVER THE INPUT: true; the input reads as it did. -/
def opNamesSpec : ChangeSpec := { name := "opNames", fn := fun _ => fun
  | [d] => { results := [.lit (.bool true)], args := [d] }
  | _ => none }
def opNamesRow : OpenClaim := { program := "ytlcjlcfogcbddaa", sum := "d4f5ab948220f9f50a76d02dc4fa0ffd4a30a1ef8daad8dcc14ca5c0520f7956", func := "tracery/tracerylaw09.OpNames", spec := "opNames", apart := false }
def OpNamesSaid : Prop := opNamesRow.holds Try.pinned (OpenSpec.ofChange opNamesSpec)

/-- ITS FALSE NEIGHBOUR: 'it returns false'. Refute it at one input. -/
def opNamesWrong : ChangeSpec := { name := "opNames", fn := fun _ => fun
  | [d] => { results := [.lit (.bool false)], args := [d] }
  | _ => none }
def OpNamesWrongFalsely : Prop := opNamesRow.holds Try.pinned (OpenSpec.ofChange opNamesWrong)

/-- 'tracerylaw09.OpMay': WHATEVER THE INPUT: true; the input reads as it did. -/
def opMaySpec : ChangeSpec := { name := "opMay", fn := fun _ => fun
  | [d1, d2, d3] => { results := [.lit (.bool true)], args := [d1, d2, d3] }
  | _ => none }
def opMayRow : OpenClaim := { program := "ytlcjlcfogcbddaa", sum := "d4f5ab948220f9f50a76d02dc4fa0ffd4a30a1ef8daad8dcc14ca5c0520f7956", func := "tracery/tracerylaw09.OpMay", spec := "opMay", apart := false }
def OpMaySaid : Prop := opMayRow.holds Try.pinned (OpenSpec.ofChange opMaySpec)

/-- ITS FALSE NEIGHBOUR: 'it returns false'. Refute it at one input. -/
def opMayWrong : ChangeSpec := { name := "opMay", fn := fun _ => fun
  | [d1, d2, d3] => { results := [.lit (.bool false)], args := [d1, d2, d3] }
  | _ => none }
def OpMayWrongFalsely : Prop := opMayRow.holds Try.pinned (OpenSpec.ofChange opMayWrong)

/-- 'tracerylaw09.OpJoins': WHATEVER THE INPUT: true; the input reads as it did. -/
def opJoinsSpec : ChangeSpec := { name := "opJoins", fn := fun _ => fun
  | [d1, d2] => { results := [.lit (.bool true)], args := [d1, d2] }
  | _ => none }
def opJoinsRow : OpenClaim := { program := "ytlcjlcfogcbddaa", sum := "d4f5ab948220f9f50a76d02dc4fa0ffd4a30a1ef8daad8dcc14ca5c0520f7956", func := "tracery/tracerylaw09.OpJoins", spec := "opJoins", apart := false }
def OpJoinsSaid : Prop := opJoinsRow.holds Try.pinned (OpenSpec.ofChange opJoinsSpec)

/-- ITS FALSE NEIGHBOUR: 'it returns false'. Refute it at one input. -/
def opJoinsWrong : ChangeSpec := { name := "opJoins", fn := fun _ => fun
  | [d1, d2] => { results := [.lit (.bool false)], args := [d1, d2] }
  | _ => none }
def OpJoinsWrongFalsely : Prop := opJoinsRow.holds Try.pinned (OpenSpec.ofChange opJoinsWrong)

/- THE SECOND FORM. 'bulk': how many values and letters a reading holds, each counted each time it is reached (what is shared counts as often as it is met; a slice's spare places count too). A statement '..UptoSaid' is the law's where the arguments, and the package variables that the reading takes, are together of bulk at most 1048576: NARROWER than '..Said'. Prove '..Said' where nothing that the law and all that it calls make is longer than what came in: it says more and counts as full. Else prove '..UptoSaid'. A law counts once. -/
mutual
def uptoBulk {H : Type} : DataW H → Nat
  | .lit (.string bytes) => bytes.length + 1
  | .lit _ => 1
  | .nil => 1
  | .ptr d => uptoBulk d + 1
  | .slice elems spare => uptoBulkAll elems + uptoBulkAll spare + 1
  | .agg parts => uptoBulkAll parts + 1
  | .iface _ d => uptoBulk d + 1
  | .map entries => uptoBulkEntries entries + 1
  | .held _ => 1
def uptoBulkAll {H : Type} : List (DataW H) → Nat
  | [] => 0
  | d :: r => uptoBulk d + uptoBulkAll r
def uptoBulkEntries {H : Type} : List (Lit × DataW H) → Nat
  | [] => 0
  | x :: r => uptoBulkEntry x + uptoBulkEntries r
def uptoBulkEntry {H : Type} : Lit × DataW H → Nat
  | (.string bytes, d) => bytes.length + uptoBulk d + 1
  | (_, d) => uptoBulk d + 1
 end
def uptoSmall : (H : Type) → List (DataW H) → Bool := fun _ ds => decide (uptoBulkAll ds ≤ 1048576)
def OpenSpec.upto (s : _root_.Go.ChangeSpec) : _root_.Go.OpenSpec := { _root_.Go.OpenSpec.ofChange s with cond := some uptoSmall }

/-- 'tracerylaw09.OpZero', WHERE WHAT IT READS IS OF BULK AT MOST 1048576: true; the input reads as it did. -/
def opZeroUptoRow : OpenClaim := { program := "ytlcjlcfogcbddaa", sum := "d4f5ab948220f9f50a76d02dc4fa0ffd4a30a1ef8daad8dcc14ca5c0520f7956", func := "tracery/tracerylaw09.OpZero", spec := "opZero", apart := false, narrowed := true }
def OpZeroUptoSaid : Prop := opZeroUptoRow.holds Try.pinned (OpenSpec.upto opZeroSpec)

/-- 'tracerylaw09.OpKinds', WHERE WHAT IT READS IS OF BULK AT MOST 1048576: true; the input reads as it did. -/
def opKindsUptoRow : OpenClaim := { program := "ytlcjlcfogcbddaa", sum := "d4f5ab948220f9f50a76d02dc4fa0ffd4a30a1ef8daad8dcc14ca5c0520f7956", func := "tracery/tracerylaw09.OpKinds", spec := "opKinds", apart := false, narrowed := true }
def OpKindsUptoSaid : Prop := opKindsUptoRow.holds Try.pinned (OpenSpec.upto opKindsSpec)

/-- 'tracerylaw09.OpParts', WHERE WHAT IT READS IS OF BULK AT MOST 1048576: true; the input reads as it did. -/
def opPartsUptoRow : OpenClaim := { program := "ytlcjlcfogcbddaa", sum := "d4f5ab948220f9f50a76d02dc4fa0ffd4a30a1ef8daad8dcc14ca5c0520f7956", func := "tracery/tracerylaw09.OpParts", spec := "opParts", apart := false, narrowed := true }
def OpPartsUptoSaid : Prop := opPartsUptoRow.holds Try.pinned (OpenSpec.upto opPartsSpec)

/-- 'tracerylaw09.OpNames', WHERE WHAT IT READS IS OF BULK AT MOST 1048576: true; the input reads as it did. -/
def opNamesUptoRow : OpenClaim := { program := "ytlcjlcfogcbddaa", sum := "d4f5ab948220f9f50a76d02dc4fa0ffd4a30a1ef8daad8dcc14ca5c0520f7956", func := "tracery/tracerylaw09.OpNames", spec := "opNames", apart := false, narrowed := true }
def OpNamesUptoSaid : Prop := opNamesUptoRow.holds Try.pinned (OpenSpec.upto opNamesSpec)

/-- 'tracerylaw09.OpMay', WHERE WHAT IT READS IS OF BULK AT MOST 1048576: true; the input reads as it did. -/
def opMayUptoRow : OpenClaim := { program := "ytlcjlcfogcbddaa", sum := "d4f5ab948220f9f50a76d02dc4fa0ffd4a30a1ef8daad8dcc14ca5c0520f7956", func := "tracery/tracerylaw09.OpMay", spec := "opMay", apart := false, narrowed := true }
def OpMayUptoSaid : Prop := opMayUptoRow.holds Try.pinned (OpenSpec.upto opMaySpec)

/-- 'tracerylaw09.OpJoins', WHERE WHAT IT READS IS OF BULK AT MOST 1048576: true; the input reads as it did. -/
def opJoinsUptoRow : OpenClaim := { program := "ytlcjlcfogcbddaa", sum := "d4f5ab948220f9f50a76d02dc4fa0ffd4a30a1ef8daad8dcc14ca5c0520f7956", func := "tracery/tracerylaw09.OpJoins", spec := "opJoins", apart := false, narrowed := true }
def OpJoinsUptoSaid : Prop := opJoinsUptoRow.holds Try.pinned (OpenSpec.upto opJoinsSpec)

end Rows
end Go.Proofs.Ytlcjlcfogcbddaa
