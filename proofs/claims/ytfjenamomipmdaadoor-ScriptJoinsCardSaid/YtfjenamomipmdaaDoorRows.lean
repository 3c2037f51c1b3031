/-
  NARROWER THAN 'FOR EVERY INPUT', by the rows' own cells (each row's printed sentence says how): OpcodePuts: laid · OpcodeSizes: laid · OpcodeRows: laid · OpcodeTakes: laid · OpcodeBack: laid · OpcodeTurned: laid · ScriptSteps: laid · ScriptApart: laid · ScriptParses: laid · ScriptBack: laid · ScriptJoins: laid.
  DERIVED. THE GIVEN ROWS OF THIS SEAT. 11 by the template 'for every input the law returns true; each argument reads behind the call as it read before'; 0 by the template 'total and deterministic' (their statements: YtfjenamomipmdaaDoorTotals.lean).
  GIVEN WITH THE SEED: the statements are not yours to turn. If you find one false, say at which input.
  Laid BY PROGRAM, IN A SANDBOX (cutbox-rows.mjs): the forced cells as the released guide's own fill.sh prints them over the translation 8c157156dfc49e7b… (all of the seat's roots in one cut). By AI agents, Wed Nov 11 2026. No macro, syntax, notation, axiom, sorry.
-/
import Derived.Test.YtfjenamomipmdaaDoorChecked
import GoSem.Claim
import GoSem.ClaimJoined
import GoSem.ClaimMapViews
import Derived.JoinedTies
import Derived.KernelRfl
namespace Go.Proofs.YtfjenamomipmdaaDoor
/- THE CELL 'sum', in the pinned program and in every row, IS THE sha256 OF THE DUMP (.gsa) THAT YtfjenamomipmdaaDoorProg.lean LOADS. Nothing in Lean hashes anything: it is a label: what it is worth is what the hold of that sum in a sandbox is worth. -/
noncomputable def Tryd.pinned : Pinned := { name := "ytfjenamomipmdaadoor", sum := "8c157156dfc49e7bb04faf84f89b39e37e273a261422978976dbfe069673a432", checked := Tryd.checked }
namespace Rows
def none {H : Type} : Left H := { results := [], args := [] }

/- WHAT THE LISTED PACKAGE-LEVEL VARIABLES READ AS WHEN THE CALL BEGINS. Each datum BY PROGRAM (the guide's laid-datum.mjs) off the statement by which the dump's own 'gosem.cut.vars' lays the variable. In a bare row this is a premise. The card (YtfjenamomipmdaaDoorCards.lean) ties it to the program's text. -/
def laid_bytes_ErrTooLarge {H : Type} : DataW H := .iface "*errors.errorString" (.ptr (.agg [.lit (.string [98, 121, 116, 101, 115, 46, 66, 117, 102, 102, 101, 114, 58, 32, 116, 111, 111, 32, 108, 97, 114, 103, 101])]))

/-- 'tracerylaw10.OpcodePuts': WHATEVER THE INPUT: true; the input reads as it did. -/
def opcodePutsSpec : ChangeSpec := { name := "opcodePuts", fn := fun _ => fun
  | [d1, d2] => { results := [.lit (.bool true)], args := [d1, d2] }
  | _ => none }
def opcodePutsRow : OpenClaim := { program := "ytfjenamomipmdaadoor", sum := "8c157156dfc49e7bb04faf84f89b39e37e273a261422978976dbfe069673a432", func := "tracery/tracerylaw10.OpcodePuts", spec := "opcodePuts", named := ["bytes.ErrTooLarge"], apart := false, laid := [("bytes.ErrTooLarge", laid_bytes_ErrTooLarge)] }
def OpcodePutsSaid : Prop := opcodePutsRow.holds Tryd.pinned (OpenSpec.ofChange opcodePutsSpec)

/-- ITS FALSE NEIGHBOUR: 'it returns false'. Refute it at one input. -/
def opcodePutsWrong : ChangeSpec := { name := "opcodePuts", fn := fun _ => fun
  | [d1, d2] => { results := [.lit (.bool false)], args := [d1, d2] }
  | _ => none }
def OpcodePutsWrongFalsely : Prop := opcodePutsRow.holds Tryd.pinned (OpenSpec.ofChange opcodePutsWrong)

/-- 'tracerylaw10.OpcodeSizes': WHATEVER THE INPUT: true; the input reads as it did. -/
def opcodeSizesSpec : ChangeSpec := { name := "opcodeSizes", fn := fun _ => fun
  | [d] => { results := [.lit (.bool true)], args := [d] }
  | _ => none }
def opcodeSizesRow : OpenClaim := { program := "ytfjenamomipmdaadoor", sum := "8c157156dfc49e7bb04faf84f89b39e37e273a261422978976dbfe069673a432", func := "tracery/tracerylaw10.OpcodeSizes", spec := "opcodeSizes", named := ["bytes.ErrTooLarge"], apart := false, laid := [("bytes.ErrTooLarge", laid_bytes_ErrTooLarge)] }
def OpcodeSizesSaid : Prop := opcodeSizesRow.holds Tryd.pinned (OpenSpec.ofChange opcodeSizesSpec)

/-- ITS FALSE NEIGHBOUR: 'it returns false'. Refute it at one input. -/
def opcodeSizesWrong : ChangeSpec := { name := "opcodeSizes", fn := fun _ => fun
  | [d] => { results := [.lit (.bool false)], args := [d] }
  | _ => none }
def OpcodeSizesWrongFalsely : Prop := opcodeSizesRow.holds Tryd.pinned (OpenSpec.ofChange opcodeSizesWrong)

/-- 'tracerylaw10.OpcodeRows': WHATEVER THE INPUT: true; the input reads as it did. -/
def opcodeRowsSpec : ChangeSpec := { name := "opcodeRows", fn := fun _ => fun
  | [d] => { results := [.lit (.bool true)], args := [d] }
  | _ => none }
def opcodeRowsRow : OpenClaim := { program := "ytfjenamomipmdaadoor", sum := "8c157156dfc49e7bb04faf84f89b39e37e273a261422978976dbfe069673a432", func := "tracery/tracerylaw10.OpcodeRows", spec := "opcodeRows", unfollowed := true, recurses := true, named := ["bytes.ErrTooLarge"], apart := false, laid := [("bytes.ErrTooLarge", laid_bytes_ErrTooLarge)] }
def OpcodeRowsSaid : Prop := opcodeRowsRow.holds Tryd.pinned (OpenSpec.ofChange opcodeRowsSpec)

/-- ITS FALSE NEIGHBOUR: 'it returns false'. Refute it at one input. -/
def opcodeRowsWrong : ChangeSpec := { name := "opcodeRows", fn := fun _ => fun
  | [d] => { results := [.lit (.bool false)], args := [d] }
  | _ => none }
def OpcodeRowsWrongFalsely : Prop := opcodeRowsRow.holds Tryd.pinned (OpenSpec.ofChange opcodeRowsWrong)

/-- 'tracerylaw10.OpcodeTakes': WHATEVER THE INPUT: true; the input reads as it did. -/
def opcodeTakesSpec : ChangeSpec := { name := "opcodeTakes", fn := fun _ => fun
  | [d] => { results := [.lit (.bool true)], args := [d] }
  | _ => none }
def opcodeTakesRow : OpenClaim := { program := "ytfjenamomipmdaadoor", sum := "8c157156dfc49e7bb04faf84f89b39e37e273a261422978976dbfe069673a432", func := "tracery/tracerylaw10.OpcodeTakes", spec := "opcodeTakes", unfollowed := true, recurses := true, named := ["bytes.ErrTooLarge"], apart := false, laid := [("bytes.ErrTooLarge", laid_bytes_ErrTooLarge)] }
def OpcodeTakesSaid : Prop := opcodeTakesRow.holds Tryd.pinned (OpenSpec.ofChange opcodeTakesSpec)

/-- ITS FALSE NEIGHBOUR: 'it returns false'. Refute it at one input. -/
def opcodeTakesWrong : ChangeSpec := { name := "opcodeTakes", fn := fun _ => fun
  | [d] => { results := [.lit (.bool false)], args := [d] }
  | _ => none }
def OpcodeTakesWrongFalsely : Prop := opcodeTakesRow.holds Tryd.pinned (OpenSpec.ofChange opcodeTakesWrong)

/-- 'tracerylaw10.OpcodeBack': WHATEVER THE INPUT: true; the input reads as it did. -/
def opcodeBackSpec : ChangeSpec := { name := "opcodeBack", fn := fun _ => fun
  | [d1, d2, d3] => { results := [.lit (.bool true)], args := [d1, d2, d3] }
  | _ => none }
def opcodeBackRow : OpenClaim := { program := "ytfjenamomipmdaadoor", sum := "8c157156dfc49e7bb04faf84f89b39e37e273a261422978976dbfe069673a432", func := "tracery/tracerylaw10.OpcodeBack", spec := "opcodeBack", unfollowed := true, recurses := true, named := ["bytes.ErrTooLarge"], apart := false, laid := [("bytes.ErrTooLarge", laid_bytes_ErrTooLarge)] }
def OpcodeBackSaid : Prop := opcodeBackRow.holds Tryd.pinned (OpenSpec.ofChange opcodeBackSpec)

/-- ITS FALSE NEIGHBOUR: 'it returns false'. Refute it at one input. -/
def opcodeBackWrong : ChangeSpec := { name := "opcodeBack", fn := fun _ => fun
  | [d1, d2, d3] => { results := [.lit (.bool false)], args := [d1, d2, d3] }
  | _ => none }
def OpcodeBackWrongFalsely : Prop := opcodeBackRow.holds Tryd.pinned (OpenSpec.ofChange opcodeBackWrong)

/-- 'tracerylaw10.OpcodeTurned': WHATEVER THE INPUT: true; the input reads as it did. -/
def opcodeTurnedSpec : ChangeSpec := { name := "opcodeTurned", fn := fun _ => fun
  | [d1, d2, d3] => { results := [.lit (.bool true)], args := [d1, d2, d3] }
  | _ => none }
def opcodeTurnedRow : OpenClaim := { program := "ytfjenamomipmdaadoor", sum := "8c157156dfc49e7bb04faf84f89b39e37e273a261422978976dbfe069673a432", func := "tracery/tracerylaw10.OpcodeTurned", spec := "opcodeTurned", unfollowed := true, recurses := true, named := ["bytes.ErrTooLarge"], apart := false, laid := [("bytes.ErrTooLarge", laid_bytes_ErrTooLarge)] }
def OpcodeTurnedSaid : Prop := opcodeTurnedRow.holds Tryd.pinned (OpenSpec.ofChange opcodeTurnedSpec)

/-- ITS FALSE NEIGHBOUR: 'it returns false'. Refute it at one input. -/
def opcodeTurnedWrong : ChangeSpec := { name := "opcodeTurned", fn := fun _ => fun
  | [d1, d2, d3] => { results := [.lit (.bool false)], args := [d1, d2, d3] }
  | _ => none }
def OpcodeTurnedWrongFalsely : Prop := opcodeTurnedRow.holds Tryd.pinned (OpenSpec.ofChange opcodeTurnedWrong)

/-- 'tracerylaw23.ScriptSteps': WHATEVER THE INPUT: true; the input reads as it did. -/
def scriptStepsSpec : ChangeSpec := { name := "scriptSteps", fn := fun _ => fun
  | [d1, d2] => { results := [.lit (.bool true)], args := [d1, d2] }
  | _ => none }
def scriptStepsRow : OpenClaim := { program := "ytfjenamomipmdaadoor", sum := "8c157156dfc49e7bb04faf84f89b39e37e273a261422978976dbfe069673a432", func := "tracery/tracerylaw23.ScriptSteps", spec := "scriptSteps", inPlace := ["internal/abi.NoEscape"], unfollowed := true, recurses := true, named := ["bytes.ErrTooLarge"], apart := false, laid := [("bytes.ErrTooLarge", laid_bytes_ErrTooLarge)] }
def ScriptStepsSaid : Prop := scriptStepsRow.holds Tryd.pinned (OpenSpec.ofChange scriptStepsSpec)

/-- ITS FALSE NEIGHBOUR: 'it returns false'. Refute it at one input. -/
def scriptStepsWrong : ChangeSpec := { name := "scriptSteps", fn := fun _ => fun
  | [d1, d2] => { results := [.lit (.bool false)], args := [d1, d2] }
  | _ => none }
def ScriptStepsWrongFalsely : Prop := scriptStepsRow.holds Tryd.pinned (OpenSpec.ofChange scriptStepsWrong)

/-- 'tracerylaw23.ScriptApart': WHATEVER THE INPUT: true; the input reads as it did. -/
def scriptApartSpec : ChangeSpec := { name := "scriptApart", fn := fun _ => fun
  | [d1, d2] => { results := [.lit (.bool true)], args := [d1, d2] }
  | _ => none }
def scriptApartRow : OpenClaim := { program := "ytfjenamomipmdaadoor", sum := "8c157156dfc49e7bb04faf84f89b39e37e273a261422978976dbfe069673a432", func := "tracery/tracerylaw23.ScriptApart", spec := "scriptApart", inPlace := ["internal/abi.NoEscape"], unfollowed := true, recurses := true, named := ["bytes.ErrTooLarge"], apart := false, laid := [("bytes.ErrTooLarge", laid_bytes_ErrTooLarge)] }
def ScriptApartSaid : Prop := scriptApartRow.holds Tryd.pinned (OpenSpec.ofChange scriptApartSpec)

/-- ITS FALSE NEIGHBOUR: 'it returns false'. Refute it at one input. -/
def scriptApartWrong : ChangeSpec := { name := "scriptApart", fn := fun _ => fun
  | [d1, d2] => { results := [.lit (.bool false)], args := [d1, d2] }
  | _ => none }
def ScriptApartWrongFalsely : Prop := scriptApartRow.holds Tryd.pinned (OpenSpec.ofChange scriptApartWrong)

/-- 'tracerylaw23.ScriptParses': WHATEVER THE INPUT: true; the input reads as it did. -/
def scriptParsesSpec : ChangeSpec := { name := "scriptParses", fn := fun _ => fun
  | [d] => { results := [.lit (.bool true)], args := [d] }
  | _ => none }
def scriptParsesRow : OpenClaim := { program := "ytfjenamomipmdaadoor", sum := "8c157156dfc49e7bb04faf84f89b39e37e273a261422978976dbfe069673a432", func := "tracery/tracerylaw23.ScriptParses", spec := "scriptParses", inPlace := ["internal/abi.NoEscape", "internal/bytealg.CountString", "internal/bytealg.IndexByteString", "internal/bytealg.IndexString"], unfollowed := true, recurses := true, named := ["bytes.ErrTooLarge", "internal/bytealg.MaxLen"], apart := false, laid := [("bytes.ErrTooLarge", laid_bytes_ErrTooLarge)] }
def ScriptParsesSaid : Prop := scriptParsesRow.holds Tryd.pinned (OpenSpec.ofChange scriptParsesSpec)

/-- ITS FALSE NEIGHBOUR: 'it returns false'. Refute it at one input. -/
def scriptParsesWrong : ChangeSpec := { name := "scriptParses", fn := fun _ => fun
  | [d] => { results := [.lit (.bool false)], args := [d] }
  | _ => none }
def ScriptParsesWrongFalsely : Prop := scriptParsesRow.holds Tryd.pinned (OpenSpec.ofChange scriptParsesWrong)

/-- 'tracerylaw23.ScriptBack': WHATEVER THE INPUT: true; the input reads as it did. -/
def scriptBackSpec : ChangeSpec := { name := "scriptBack", fn := fun _ => fun
  | [d1, d2] => { results := [.lit (.bool true)], args := [d1, d2] }
  | _ => none }
def scriptBackRow : OpenClaim := { program := "ytfjenamomipmdaadoor", sum := "8c157156dfc49e7bb04faf84f89b39e37e273a261422978976dbfe069673a432", func := "tracery/tracerylaw23.ScriptBack", spec := "scriptBack", inPlace := ["internal/abi.NoEscape", "internal/bytealg.CountString", "internal/bytealg.IndexByteString", "internal/bytealg.IndexString"], unfollowed := true, recurses := true, named := ["bytes.ErrTooLarge", "internal/bytealg.MaxLen"], apart := false, laid := [("bytes.ErrTooLarge", laid_bytes_ErrTooLarge)] }
def ScriptBackSaid : Prop := scriptBackRow.holds Tryd.pinned (OpenSpec.ofChange scriptBackSpec)

/-- ITS FALSE NEIGHBOUR: 'it returns false'. Refute it at one input. -/
def scriptBackWrong : ChangeSpec := { name := "scriptBack", fn := fun _ => fun
  | [d1, d2] => { results := [.lit (.bool false)], args := [d1, d2] }
  | _ => none }
def ScriptBackWrongFalsely : Prop := scriptBackRow.holds Tryd.pinned (OpenSpec.ofChange scriptBackWrong)

/-- 'tracerylaw23.ScriptJoins': WHATEVER THE INPUT: true; the input reads as it did. -/
def scriptJoinsSpec : ChangeSpec := { name := "scriptJoins", fn := fun _ => fun
  | [d1, d2] => { results := [.lit (.bool true)], args := [d1, d2] }
  | _ => none }
def scriptJoinsRow : OpenClaim := { program := "ytfjenamomipmdaadoor", sum := "8c157156dfc49e7bb04faf84f89b39e37e273a261422978976dbfe069673a432", func := "tracery/tracerylaw23.ScriptJoins", spec := "scriptJoins", inPlace := ["internal/abi.NoEscape", "internal/bytealg.CountString", "internal/bytealg.IndexByteString", "internal/bytealg.IndexString"], unfollowed := true, recurses := true, named := ["bytes.ErrTooLarge", "internal/bytealg.MaxLen"], apart := false, laid := [("bytes.ErrTooLarge", laid_bytes_ErrTooLarge)] }
def ScriptJoinsSaid : Prop := scriptJoinsRow.holds Tryd.pinned (OpenSpec.ofChange scriptJoinsSpec)

/-- ITS FALSE NEIGHBOUR: 'it returns false'. Refute it at one input. -/
def scriptJoinsWrong : ChangeSpec := { name := "scriptJoins", fn := fun _ => fun
  | [d1, d2] => { results := [.lit (.bool false)], args := [d1, d2] }
  | _ => none }
def ScriptJoinsWrongFalsely : Prop := scriptJoinsRow.holds Tryd.pinned (OpenSpec.ofChange scriptJoinsWrong)

/- THE SECOND FORM. 'bulk': how many values and letters a reading holds, each counted each time it is reached (what is shared counts as often as it is met; a slice's spare places count too). A statement '..UptoSaid' is the law's where the arguments, and the package variables that the reading takes, are together of bulk at most 1048576: NARROWER than '..Said'. Prove '..Said' where nothing that the law and all that it calls make is longer than what came in: it says more and counts as full. Else prove '..UptoSaid'. A law counts once. -/
mutual
def uptoBulk {H : Type} : DataW H → Nat
  | .lit (.string bytes) => bytes.length + 1
  | .lit _ => 1
  | .nil => 1
  | .ptr d => uptoBulk d + 1
  | .slice elems spare => uptoBulkAll elems + uptoBulkAll spare + 1
  | .agg parts => uptoBulkAll parts + 1
  | .iface _ d => uptoBulk d + 1
  | .map entries => uptoBulkEntries entries + 1
  | .held _ => 1
def uptoBulkAll {H : Type} : List (DataW H) → Nat
  | [] => 0
  | d :: r => uptoBulk d + uptoBulkAll r
def uptoBulkEntries {H : Type} : List (Lit × DataW H) → Nat
  | [] => 0
  | x :: r => uptoBulkEntry x + uptoBulkEntries r
def uptoBulkEntry {H : Type} : Lit × DataW H → Nat
  | (.string bytes, d) => bytes.length + uptoBulk d + 1
  | (_, d) => uptoBulk d + 1
 end
def uptoSmall : (H : Type) → List (DataW H) → Bool := fun _ ds => decide (uptoBulkAll ds ≤ 1048576)
def OpenSpec.upto (s : _root_.Go.ChangeSpec) : _root_.Go.OpenSpec := { _root_.Go.OpenSpec.ofChange s with cond := some uptoSmall }

/-- 'tracerylaw10.OpcodePuts', WHERE WHAT IT READS IS OF BULK AT MOST 1048576: true; the input reads as it did. -/
def opcodePutsUptoRow : OpenClaim := { program := "ytfjenamomipmdaadoor", sum := "8c157156dfc49e7bb04faf84f89b39e37e273a261422978976dbfe069673a432", func := "tracery/tracerylaw10.OpcodePuts", spec := "opcodePuts", named := ["bytes.ErrTooLarge"], apart := false, laid := [("bytes.ErrTooLarge", laid_bytes_ErrTooLarge)], narrowed := true }
def OpcodePutsUptoSaid : Prop := opcodePutsUptoRow.holds Tryd.pinned (OpenSpec.upto opcodePutsSpec)

/-- 'tracerylaw10.OpcodeSizes', WHERE WHAT IT READS IS OF BULK AT MOST 1048576: true; the input reads as it did. -/
def opcodeSizesUptoRow : OpenClaim := { program := "ytfjenamomipmdaadoor", sum := "8c157156dfc49e7bb04faf84f89b39e37e273a261422978976dbfe069673a432", func := "tracery/tracerylaw10.OpcodeSizes", spec := "opcodeSizes", named := ["bytes.ErrTooLarge"], apart := false, laid := [("bytes.ErrTooLarge", laid_bytes_ErrTooLarge)], narrowed := true }
def OpcodeSizesUptoSaid : Prop := opcodeSizesUptoRow.holds Tryd.pinned (OpenSpec.upto opcodeSizesSpec)

/-- 'tracerylaw10.OpcodeRows', WHERE WHAT IT READS IS OF BULK AT MOST 1048576: true; the input reads as it did. -/
def opcodeRowsUptoRow : OpenClaim := { program := "ytfjenamomipmdaadoor", sum := "8c157156dfc49e7bb04faf84f89b39e37e273a261422978976dbfe069673a432", func := "tracery/tracerylaw10.OpcodeRows", spec := "opcodeRows", unfollowed := true, recurses := true, named := ["bytes.ErrTooLarge"], apart := false, laid := [("bytes.ErrTooLarge", laid_bytes_ErrTooLarge)], narrowed := true }
def OpcodeRowsUptoSaid : Prop := opcodeRowsUptoRow.holds Tryd.pinned (OpenSpec.upto opcodeRowsSpec)

/-- 'tracerylaw10.OpcodeTakes', WHERE WHAT IT READS IS OF BULK AT MOST 1048576: true; the input reads as it did. -/
def opcodeTakesUptoRow : OpenClaim := { program := "ytfjenamomipmdaadoor", sum := "8c157156dfc49e7bb04faf84f89b39e37e273a261422978976dbfe069673a432", func := "tracery/tracerylaw10.OpcodeTakes", spec := "opcodeTakes", unfollowed := true, recurses := true, named := ["bytes.ErrTooLarge"], apart := false, laid := [("bytes.ErrTooLarge", laid_bytes_ErrTooLarge)], narrowed := true }
def OpcodeTakesUptoSaid : Prop := opcodeTakesUptoRow.holds Tryd.pinned (OpenSpec.upto opcodeTakesSpec)

/-- 'tracerylaw10.OpcodeBack', WHERE WHAT IT READS IS OF BULK AT MOST 1048576: true; the input reads as it did. -/
def opcodeBackUptoRow : OpenClaim := { program := "ytfjenamomipmdaadoor", sum := "8c157156dfc49e7bb04faf84f89b39e37e273a261422978976dbfe069673a432", func := "tracery/tracerylaw10.OpcodeBack", spec := "opcodeBack", unfollowed := true, recurses := true, named := ["bytes.ErrTooLarge"], apart := false, laid := [("bytes.ErrTooLarge", laid_bytes_ErrTooLarge)], narrowed := true }
def OpcodeBackUptoSaid : Prop := opcodeBackUptoRow.holds Tryd.pinned (OpenSpec.upto opcodeBackSpec)

/-- 'tracerylaw10.OpcodeTurned', WHERE WHAT IT READS IS OF BULK AT MOST 1048576: true; the input reads as it did. -/
def opcodeTurnedUptoRow : OpenClaim := { program := "ytfjenamomipmdaadoor", sum := "8c157156dfc49e7bb04faf84f89b39e37e273a261422978976dbfe069673a432", func := "tracery/tracerylaw10.OpcodeTurned", spec := "opcodeTurned", unfollowed := true, recurses := true, named := ["bytes.ErrTooLarge"], apart := false, laid := [("bytes.ErrTooLarge", laid_bytes_ErrTooLarge)], narrowed := true }
def OpcodeTurnedUptoSaid : Prop := opcodeTurnedUptoRow.holds Tryd.pinned (OpenSpec.upto opcodeTurnedSpec)

/-- 'tracerylaw23.ScriptSteps', WHERE WHAT IT READS IS OF BULK AT MOST 1048576: true; the input reads as it did. -/
def scriptStepsUptoRow : OpenClaim := { program := "ytfjenamomipmdaadoor", sum := "8c157156dfc49e7bb04faf84f89b39e37e273a261422978976dbfe069673a432", func := "tracery/tracerylaw23.ScriptSteps", spec := "scriptSteps", inPlace := ["internal/abi.NoEscape"], unfollowed := true, recurses := true, named := ["bytes.ErrTooLarge"], apart := false, laid := [("bytes.ErrTooLarge", laid_bytes_ErrTooLarge)], narrowed := true }
def ScriptStepsUptoSaid : Prop := scriptStepsUptoRow.holds Tryd.pinned (OpenSpec.upto scriptStepsSpec)

/-- 'tracerylaw23.ScriptApart', WHERE WHAT IT READS IS OF BULK AT MOST 1048576: true; the input reads as it did. -/
def scriptApartUptoRow : OpenClaim := { program := "ytfjenamomipmdaadoor", sum := "8c157156dfc49e7bb04faf84f89b39e37e273a261422978976dbfe069673a432", func := "tracery/tracerylaw23.ScriptApart", spec := "scriptApart", inPlace := ["internal/abi.NoEscape"], unfollowed := true, recurses := true, named := ["bytes.ErrTooLarge"], apart := false, laid := [("bytes.ErrTooLarge", laid_bytes_ErrTooLarge)], narrowed := true }
def ScriptApartUptoSaid : Prop := scriptApartUptoRow.holds Tryd.pinned (OpenSpec.upto scriptApartSpec)

/-- 'tracerylaw23.ScriptParses', WHERE WHAT IT READS IS OF BULK AT MOST 1048576: true; the input reads as it did. -/
def scriptParsesUptoRow : OpenClaim := { program := "ytfjenamomipmdaadoor", sum := "8c157156dfc49e7bb04faf84f89b39e37e273a261422978976dbfe069673a432", func := "tracery/tracerylaw23.ScriptParses", spec := "scriptParses", inPlace := ["internal/abi.NoEscape", "internal/bytealg.CountString", "internal/bytealg.IndexByteString", "internal/bytealg.IndexString"], unfollowed := true, recurses := true, named := ["bytes.ErrTooLarge", "internal/bytealg.MaxLen"], apart := false, laid := [("bytes.ErrTooLarge", laid_bytes_ErrTooLarge)], narrowed := true }
def ScriptParsesUptoSaid : Prop := scriptParsesUptoRow.holds Tryd.pinned (OpenSpec.upto scriptParsesSpec)

/-- 'tracerylaw23.ScriptBack', WHERE WHAT IT READS IS OF BULK AT MOST 1048576: true; the input reads as it did. -/
def scriptBackUptoRow : OpenClaim := { program := "ytfjenamomipmdaadoor", sum := "8c157156dfc49e7bb04faf84f89b39e37e273a261422978976dbfe069673a432", func := "tracery/tracerylaw23.ScriptBack", spec := "scriptBack", inPlace := ["internal/abi.NoEscape", "internal/bytealg.CountString", "internal/bytealg.IndexByteString", "internal/bytealg.IndexString"], unfollowed := true, recurses := true, named := ["bytes.ErrTooLarge", "internal/bytealg.MaxLen"], apart := false, laid := [("bytes.ErrTooLarge", laid_bytes_ErrTooLarge)], narrowed := true }
def ScriptBackUptoSaid : Prop := scriptBackUptoRow.holds Tryd.pinned (OpenSpec.upto scriptBackSpec)

/-- 'tracerylaw23.ScriptJoins', WHERE WHAT IT READS IS OF BULK AT MOST 1048576: true; the input reads as it did. -/
def scriptJoinsUptoRow : OpenClaim := { program := "ytfjenamomipmdaadoor", sum := "8c157156dfc49e7bb04faf84f89b39e37e273a261422978976dbfe069673a432", func := "tracery/tracerylaw23.ScriptJoins", spec := "scriptJoins", inPlace := ["internal/abi.NoEscape", "internal/bytealg.CountString", "internal/bytealg.IndexByteString", "internal/bytealg.IndexString"], unfollowed := true, recurses := true, named := ["bytes.ErrTooLarge", "internal/bytealg.MaxLen"], apart := false, laid := [("bytes.ErrTooLarge", laid_bytes_ErrTooLarge)], narrowed := true }
def ScriptJoinsUptoSaid : Prop := scriptJoinsUptoRow.holds Tryd.pinned (OpenSpec.upto scriptJoinsSpec)

end Rows
end Go.Proofs.YtfjenamomipmdaaDoor
