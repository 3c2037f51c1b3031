/-
  No cell of these rows narrows 'for every input' (looked for: loops, veiled, ifaces, maps, wideKeys, modest, calm, conditions, laid).
  DERIVED. THE GIVEN ROWS OF THIS SEAT. 4 by the template 'for every input the law returns true; each argument reads behind the call as it read before'; 0 by the template 'total and deterministic' (their statements: YthfbjapbfhafbaaTotals.lean).
  GIVEN WITH THE SEED: the statements are not yours to turn. If you find one false, say at which input.
  Laid BY PROGRAM, IN A SANDBOX (cutbox-rows.mjs): the forced cells as the released guide's own fill.sh prints them over the translation a59b88eddd7b5e27… (all of the seat's roots in one cut). By AI agents, Wed Nov 11 2026. No macro, syntax, notation, axiom, sorry.
-/
import Derived.Test.YthfbjapbfhafbaaChecked
import GoSem.Claim
import GoSem.ClaimJoined
import GoSem.ClaimMapViews
import Derived.JoinedTies
import Derived.KernelRfl
namespace Go.Proofs.Ythfbjapbfhafbaa
/- THE CELL 'sum', in the pinned program and in every row, IS THE sha256 OF THE DUMP (.gsa) THAT YthfbjapbfhafbaaProg.lean LOADS. Nothing in Lean hashes anything: it is a label: what it is worth is what the hold of that sum in a sandbox is worth. -/
noncomputable def Try.pinned : Pinned := { name := "ythfbjapbfhafbaa", sum := "a59b88eddd7b5e27d3dad603e9202c0c7ee39a5c928d05e915e21f81be4cf30a", checked := Try.checked }
namespace Rows
def none {H : Type} : Left H := { results := [], args := [] }

/-- 'tracerylaw16.SenderKeeps': WHATEVER THE INPUT: true; the input reads as it did. -/
def senderKeepsSpec : ChangeSpec := { name := "senderKeeps", fn := fun _ => fun
  | [d1, d2, d3] => { results := [.lit (.bool true)], args := [d1, d2, d3] }
  | _ => none }
def senderKeepsRow : OpenClaim := { program := "ythfbjapbfhafbaa", sum := "a59b88eddd7b5e27d3dad603e9202c0c7ee39a5c928d05e915e21f81be4cf30a", func := "tracery/tracerylaw16.SenderKeeps", spec := "senderKeeps", apart := false }
def SenderKeepsSaid : Prop := senderKeepsRow.holds Try.pinned (OpenSpec.ofChange senderKeepsSpec)

/-- ITS FALSE NEIGHBOUR: 'it returns false'. Refute it at one input. -/
def senderKeepsWrong : ChangeSpec := { name := "senderKeeps", fn := fun _ => fun
  | [d1, d2, d3] => { results := [.lit (.bool false)], args := [d1, d2, d3] }
  | _ => none }
def SenderKeepsWrongFalsely : Prop := senderKeepsRow.holds Try.pinned (OpenSpec.ofChange senderKeepsWrong)

/-- 'tracerylaw16.SenderAll': WHATEVER THE INPUT: true; the input reads as it did. -/
def senderAllSpec : ChangeSpec := { name := "senderAll", fn := fun _ => fun
  | [d1, d2] => { results := [.lit (.bool true)], args := [d1, d2] }
  | _ => none }
def senderAllRow : OpenClaim := { program := "ythfbjapbfhafbaa", sum := "a59b88eddd7b5e27d3dad603e9202c0c7ee39a5c928d05e915e21f81be4cf30a", func := "tracery/tracerylaw16.SenderAll", spec := "senderAll", apart := false }
def SenderAllSaid : Prop := senderAllRow.holds Try.pinned (OpenSpec.ofChange senderAllSpec)

/-- ITS FALSE NEIGHBOUR: 'it returns false'. Refute it at one input. -/
def senderAllWrong : ChangeSpec := { name := "senderAll", fn := fun _ => fun
  | [d1, d2] => { results := [.lit (.bool false)], args := [d1, d2] }
  | _ => none }
def SenderAllWrongFalsely : Prop := senderAllRow.holds Try.pinned (OpenSpec.ofChange senderAllWrong)

/-- 'tracerylaw16.SenderOwn': WHATEVER THE INPUT: true; the input reads as it did. -/
def senderOwnSpec : ChangeSpec := { name := "senderOwn", fn := fun _ => fun
  | [d1, d2] => { results := [.lit (.bool true)], args := [d1, d2] }
  | _ => none }
def senderOwnRow : OpenClaim := { program := "ythfbjapbfhafbaa", sum := "a59b88eddd7b5e27d3dad603e9202c0c7ee39a5c928d05e915e21f81be4cf30a", func := "tracery/tracerylaw16.SenderOwn", spec := "senderOwn", apart := false }
def SenderOwnSaid : Prop := senderOwnRow.holds Try.pinned (OpenSpec.ofChange senderOwnSpec)

/-- ITS FALSE NEIGHBOUR: 'it returns false'. Refute it at one input. -/
def senderOwnWrong : ChangeSpec := { name := "senderOwn", fn := fun _ => fun
  | [d1, d2] => { results := [.lit (.bool false)], args := [d1, d2] }
  | _ => none }
def SenderOwnWrongFalsely : Prop := senderOwnRow.holds Try.pinned (OpenSpec.ofChange senderOwnWrong)

/-- 'tracerylaw16.SenderPlays': WHATEVER THE INPUT: true; the input reads as it did. -/
def senderPlaysSpec : ChangeSpec := { name := "senderPlays", fn := fun _ => fun
  | [d1, d2] => { results := [.lit (.bool true)], args := [d1, d2] }
  | _ => none }
def senderPlaysRow : OpenClaim := { program := "ythfbjapbfhafbaa", sum := "a59b88eddd7b5e27d3dad603e9202c0c7ee39a5c928d05e915e21f81be4cf30a", func := "tracery/tracerylaw16.SenderPlays", spec := "senderPlays", apart := false }
def SenderPlaysSaid : Prop := senderPlaysRow.holds Try.pinned (OpenSpec.ofChange senderPlaysSpec)

/-- ITS FALSE NEIGHBOUR: 'it returns false'. Refute it at one input. -/
def senderPlaysWrong : ChangeSpec := { name := "senderPlays", fn := fun _ => fun
  | [d1, d2] => { results := [.lit (.bool false)], args := [d1, d2] }
  | _ => none }
def SenderPlaysWrongFalsely : Prop := senderPlaysRow.holds Try.pinned (OpenSpec.ofChange senderPlaysWrong)

/- THE SECOND FORM. 'bulk': how many values and letters a reading holds, each counted each time it is reached (what is shared counts as often as it is met; a slice's spare places count too). A statement '..UptoSaid' is the law's where the arguments, and the package variables that the reading takes, are together of bulk at most 1048576: NARROWER than '..Said'. Prove '..Said' where nothing that the law and all that it calls make is longer than what came in: it says more and counts as full. Else prove '..UptoSaid'. A law counts once. -/
mutual
def uptoBulk {H : Type} : DataW H → Nat
  | .lit (.string bytes) => bytes.length + 1
  | .lit _ => 1
  | .nil => 1
  | .ptr d => uptoBulk d + 1
  | .slice elems spare => uptoBulkAll elems + uptoBulkAll spare + 1
  | .agg parts => uptoBulkAll parts + 1
  | .iface _ d => uptoBulk d + 1
  | .map entries => uptoBulkEntries entries + 1
  | .held _ => 1
def uptoBulkAll {H : Type} : List (DataW H) → Nat
  | [] => 0
  | d :: r => uptoBulk d + uptoBulkAll r
def uptoBulkEntries {H : Type} : List (Lit × DataW H) → Nat
  | [] => 0
  | x :: r => uptoBulkEntry x + uptoBulkEntries r
def uptoBulkEntry {H : Type} : Lit × DataW H → Nat
  | (.string bytes, d) => bytes.length + uptoBulk d + 1
  | (_, d) => uptoBulk d + 1
 end
def uptoSmall : (H : Type) → List (DataW H) → Bool := fun _ ds => decide (uptoBulkAll ds ≤ 1048576)
def OpenSpec.upto (s : _root_.Go.ChangeSpec) : _root_.Go.OpenSpec := { _root_.Go.OpenSpec.ofChange s with cond := some uptoSmall }

/-- 'tracerylaw16.SenderKeeps', WHERE WHAT IT READS IS OF BULK AT MOST 1048576: true; the input reads as it did. -/
def senderKeepsUptoRow : OpenClaim := { program := "ythfbjapbfhafbaa", sum := "a59b88eddd7b5e27d3dad603e9202c0c7ee39a5c928d05e915e21f81be4cf30a", func := "tracery/tracerylaw16.SenderKeeps", spec := "senderKeeps", apart := false, narrowed := true }
def SenderKeepsUptoSaid : Prop := senderKeepsUptoRow.holds Try.pinned (OpenSpec.upto senderKeepsSpec)

/-- 'tracerylaw16.SenderAll', WHERE WHAT IT READS IS OF BULK AT MOST 1048576: true; the input reads as it did. -/
def senderAllUptoRow : OpenClaim := { program := "ythfbjapbfhafbaa", sum := "a59b88eddd7b5e27d3dad603e9202c0c7ee39a5c928d05e915e21f81be4cf30a", func := "tracery/tracerylaw16.SenderAll", spec := "senderAll", apart := false, narrowed := true }
def SenderAllUptoSaid : Prop := senderAllUptoRow.holds Try.pinned (OpenSpec.upto senderAllSpec)

/-- 'tracerylaw16.SenderOwn', WHERE WHAT IT READS IS OF BULK AT MOST 1048576: true; the input reads as it did. -/
def senderOwnUptoRow : OpenClaim := { program := "ythfbjapbfhafbaa", sum := "a59b88eddd7b5e27d3dad603e9202c0c7ee39a5c928d05e915e21f81be4cf30a", func := "tracery/tracerylaw16.SenderOwn", spec := "senderOwn", apart := false, narrowed := true }
def SenderOwnUptoSaid : Prop := senderOwnUptoRow.holds Try.pinned (OpenSpec.upto senderOwnSpec)

/-- 'tracerylaw16.SenderPlays', WHERE WHAT IT READS IS OF BULK AT MOST 1048576: true; the input reads as it did. -/
def senderPlaysUptoRow : OpenClaim := { program := "ythfbjapbfhafbaa", sum := "a59b88eddd7b5e27d3dad603e9202c0c7ee39a5c928d05e915e21f81be4cf30a", func := "tracery/tracerylaw16.SenderPlays", spec := "senderPlays", apart := false, narrowed := true }
def SenderPlaysUptoSaid : Prop := senderPlaysUptoRow.holds Try.pinned (OpenSpec.upto senderPlaysSpec)

end Rows
end Go.Proofs.Ythfbjapbfhafbaa
