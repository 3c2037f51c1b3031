/-
  DERIVED. GIVEN WITH THE SEED: THE CARDS: each row of YtfjenamomipmdaaDoorRows.lean that lists a variable, with what it lists TIED to the program's text (the seventh form; the later family's looks); each row that meets fmt, with fmt's text TOLD by the authors' own Lean function (tested against real Go, not proved from fmt's source: count such statements apart). THE CARD IS WHAT COUNTS. Prove the row's statement (the work); the ties are given (YtfjenamomipmdaaDoorTie.lean); close each card by the builder's one call (the guide's Derived/Test/ToyasCard.lean, 'card_holds'). Laid BY PROGRAM, IN A SANDBOX (cutbox-door.mjs). By AI agents, Wed Nov 11 2026. No macro, syntax, notation, axiom, sorry.
-/
import Derived.Test.YtfjenamomipmdaaDoorRows
import GoSem.ClaimSeven
namespace Go.Proofs.YtfjenamomipmdaaDoor
namespace Rows

/-- THE TIED CARD OF 'tracerylaw10.OpcodePuts'. -/
def opcodePutsCard : Claim7 := { stood := { row := opcodePutsRow, standIns := [], harness := (true, "bf15714f9799aed3b77236a8e92c8855c7379c7c8b2e21991dc93d442b779d27"), looks := false }, kinds := [], alts := [], laidByText := true, laidKinds := [.sentinel], laidTests := true, laidLooks := .later }
def OpcodePutsCardSaid : Prop := Claim7.holds Tryd.pinned (.plain (OpenSpec.ofChange opcodePutsSpec)) opcodePutsCard

/-- THE TIED CARD OF 'tracerylaw10.OpcodeSizes'. -/
def opcodeSizesCard : Claim7 := { stood := { row := opcodeSizesRow, standIns := [], harness := (true, "bf15714f9799aed3b77236a8e92c8855c7379c7c8b2e21991dc93d442b779d27"), looks := false }, kinds := [], alts := [], laidByText := true, laidKinds := [.sentinel], laidTests := true, laidLooks := .later }
def OpcodeSizesCardSaid : Prop := Claim7.holds Tryd.pinned (.plain (OpenSpec.ofChange opcodeSizesSpec)) opcodeSizesCard

/-- THE TIED CARD OF 'tracerylaw10.OpcodeRows'. -/
def opcodeRowsCard : Claim7 := { stood := { row := opcodeRowsRow, standIns := [], harness := (true, "bf15714f9799aed3b77236a8e92c8855c7379c7c8b2e21991dc93d442b779d27"), looks := false }, kinds := [], alts := [], laidByText := true, laidKinds := [.sentinel], laidTests := true, laidLooks := .later }
def OpcodeRowsCardSaid : Prop := Claim7.holds Tryd.pinned (.plain (OpenSpec.ofChange opcodeRowsSpec)) opcodeRowsCard

/-- THE TIED CARD OF 'tracerylaw10.OpcodeTakes'. -/
def opcodeTakesCard : Claim7 := { stood := { row := opcodeTakesRow, standIns := [], harness := (true, "bf15714f9799aed3b77236a8e92c8855c7379c7c8b2e21991dc93d442b779d27"), looks := false }, kinds := [], alts := [], laidByText := true, laidKinds := [.sentinel], laidTests := true, laidLooks := .later }
def OpcodeTakesCardSaid : Prop := Claim7.holds Tryd.pinned (.plain (OpenSpec.ofChange opcodeTakesSpec)) opcodeTakesCard

/-- THE TIED CARD OF 'tracerylaw10.OpcodeBack'. -/
def opcodeBackCard : Claim7 := { stood := { row := opcodeBackRow, standIns := [], harness := (true, "bf15714f9799aed3b77236a8e92c8855c7379c7c8b2e21991dc93d442b779d27"), looks := false }, kinds := [], alts := [], laidByText := true, laidKinds := [.sentinel], laidTests := true, laidLooks := .later }
def OpcodeBackCardSaid : Prop := Claim7.holds Tryd.pinned (.plain (OpenSpec.ofChange opcodeBackSpec)) opcodeBackCard

/-- THE TIED CARD OF 'tracerylaw10.OpcodeTurned'. -/
def opcodeTurnedCard : Claim7 := { stood := { row := opcodeTurnedRow, standIns := [], harness := (true, "bf15714f9799aed3b77236a8e92c8855c7379c7c8b2e21991dc93d442b779d27"), looks := false }, kinds := [], alts := [], laidByText := true, laidKinds := [.sentinel], laidTests := true, laidLooks := .later }
def OpcodeTurnedCardSaid : Prop := Claim7.holds Tryd.pinned (.plain (OpenSpec.ofChange opcodeTurnedSpec)) opcodeTurnedCard

/-- THE TIED CARD OF 'tracerylaw23.ScriptSteps'. -/
def scriptStepsCard : Claim7 := { stood := { row := scriptStepsRow, standIns := [], harness := (true, "bf15714f9799aed3b77236a8e92c8855c7379c7c8b2e21991dc93d442b779d27"), looks := false }, kinds := [], alts := [], laidByText := true, laidKinds := [.sentinel], laidTests := true, laidLooks := .later }
def ScriptStepsCardSaid : Prop := Claim7.holds Tryd.pinned (.plain (OpenSpec.ofChange scriptStepsSpec)) scriptStepsCard

/-- THE TIED CARD OF 'tracerylaw23.ScriptApart'. -/
def scriptApartCard : Claim7 := { stood := { row := scriptApartRow, standIns := [], harness := (true, "bf15714f9799aed3b77236a8e92c8855c7379c7c8b2e21991dc93d442b779d27"), looks := false }, kinds := [], alts := [], laidByText := true, laidKinds := [.sentinel], laidTests := true, laidLooks := .later }
def ScriptApartCardSaid : Prop := Claim7.holds Tryd.pinned (.plain (OpenSpec.ofChange scriptApartSpec)) scriptApartCard

/-- THE TIED CARD OF 'tracerylaw23.ScriptParses'. -/
def scriptParsesCard : Claim7 := { stood := { row := scriptParsesRow, standIns := [], harness := (true, "bf15714f9799aed3b77236a8e92c8855c7379c7c8b2e21991dc93d442b779d27"), looks := false }, kinds := [], alts := [], laidByText := true, laidKinds := [.sentinel], laidTests := true, laidLooks := .later }
def ScriptParsesCardSaid : Prop := Claim7.holds Tryd.pinned (.plain (OpenSpec.ofChange scriptParsesSpec)) scriptParsesCard

/-- THE TIED CARD OF 'tracerylaw23.ScriptBack'. -/
def scriptBackCard : Claim7 := { stood := { row := scriptBackRow, standIns := [], harness := (true, "bf15714f9799aed3b77236a8e92c8855c7379c7c8b2e21991dc93d442b779d27"), looks := false }, kinds := [], alts := [], laidByText := true, laidKinds := [.sentinel], laidTests := true, laidLooks := .later }
def ScriptBackCardSaid : Prop := Claim7.holds Tryd.pinned (.plain (OpenSpec.ofChange scriptBackSpec)) scriptBackCard

/-- THE TIED CARD OF 'tracerylaw23.ScriptJoins'. -/
def scriptJoinsCard : Claim7 := { stood := { row := scriptJoinsRow, standIns := [], harness := (true, "bf15714f9799aed3b77236a8e92c8855c7379c7c8b2e21991dc93d442b779d27"), looks := false }, kinds := [], alts := [], laidByText := true, laidKinds := [.sentinel], laidTests := true, laidLooks := .later }
def ScriptJoinsCardSaid : Prop := Claim7.holds Tryd.pinned (.plain (OpenSpec.ofChange scriptJoinsSpec)) scriptJoinsCard

/-- THE SECOND FORM's CARD OF 'tracerylaw10.OpcodePuts'. -/
def opcodePutsUptoCard : Claim7 := { stood := { row := opcodePutsUptoRow, standIns := [], harness := (true, "bf15714f9799aed3b77236a8e92c8855c7379c7c8b2e21991dc93d442b779d27"), looks := false }, kinds := [], alts := [], laidByText := true, laidKinds := [.sentinel], laidTests := true, laidLooks := .later }
def OpcodePutsUptoCardSaid : Prop := Claim7.holds Tryd.pinned (.plain (OpenSpec.upto opcodePutsSpec)) opcodePutsUptoCard

/-- THE SECOND FORM's CARD OF 'tracerylaw10.OpcodeSizes'. -/
def opcodeSizesUptoCard : Claim7 := { stood := { row := opcodeSizesUptoRow, standIns := [], harness := (true, "bf15714f9799aed3b77236a8e92c8855c7379c7c8b2e21991dc93d442b779d27"), looks := false }, kinds := [], alts := [], laidByText := true, laidKinds := [.sentinel], laidTests := true, laidLooks := .later }
def OpcodeSizesUptoCardSaid : Prop := Claim7.holds Tryd.pinned (.plain (OpenSpec.upto opcodeSizesSpec)) opcodeSizesUptoCard

/-- THE SECOND FORM's CARD OF 'tracerylaw10.OpcodeRows'. -/
def opcodeRowsUptoCard : Claim7 := { stood := { row := opcodeRowsUptoRow, standIns := [], harness := (true, "bf15714f9799aed3b77236a8e92c8855c7379c7c8b2e21991dc93d442b779d27"), looks := false }, kinds := [], alts := [], laidByText := true, laidKinds := [.sentinel], laidTests := true, laidLooks := .later }
def OpcodeRowsUptoCardSaid : Prop := Claim7.holds Tryd.pinned (.plain (OpenSpec.upto opcodeRowsSpec)) opcodeRowsUptoCard

/-- THE SECOND FORM's CARD OF 'tracerylaw10.OpcodeTakes'. -/
def opcodeTakesUptoCard : Claim7 := { stood := { row := opcodeTakesUptoRow, standIns := [], harness := (true, "bf15714f9799aed3b77236a8e92c8855c7379c7c8b2e21991dc93d442b779d27"), looks := false }, kinds := [], alts := [], laidByText := true, laidKinds := [.sentinel], laidTests := true, laidLooks := .later }
def OpcodeTakesUptoCardSaid : Prop := Claim7.holds Tryd.pinned (.plain (OpenSpec.upto opcodeTakesSpec)) opcodeTakesUptoCard

/-- THE SECOND FORM's CARD OF 'tracerylaw10.OpcodeBack'. -/
def opcodeBackUptoCard : Claim7 := { stood := { row := opcodeBackUptoRow, standIns := [], harness := (true, "bf15714f9799aed3b77236a8e92c8855c7379c7c8b2e21991dc93d442b779d27"), looks := false }, kinds := [], alts := [], laidByText := true, laidKinds := [.sentinel], laidTests := true, laidLooks := .later }
def OpcodeBackUptoCardSaid : Prop := Claim7.holds Tryd.pinned (.plain (OpenSpec.upto opcodeBackSpec)) opcodeBackUptoCard

/-- THE SECOND FORM's CARD OF 'tracerylaw10.OpcodeTurned'. -/
def opcodeTurnedUptoCard : Claim7 := { stood := { row := opcodeTurnedUptoRow, standIns := [], harness := (true, "bf15714f9799aed3b77236a8e92c8855c7379c7c8b2e21991dc93d442b779d27"), looks := false }, kinds := [], alts := [], laidByText := true, laidKinds := [.sentinel], laidTests := true, laidLooks := .later }
def OpcodeTurnedUptoCardSaid : Prop := Claim7.holds Tryd.pinned (.plain (OpenSpec.upto opcodeTurnedSpec)) opcodeTurnedUptoCard

/-- THE SECOND FORM's CARD OF 'tracerylaw23.ScriptSteps'. -/
def scriptStepsUptoCard : Claim7 := { stood := { row := scriptStepsUptoRow, standIns := [], harness := (true, "bf15714f9799aed3b77236a8e92c8855c7379c7c8b2e21991dc93d442b779d27"), looks := false }, kinds := [], alts := [], laidByText := true, laidKinds := [.sentinel], laidTests := true, laidLooks := .later }
def ScriptStepsUptoCardSaid : Prop := Claim7.holds Tryd.pinned (.plain (OpenSpec.upto scriptStepsSpec)) scriptStepsUptoCard

/-- THE SECOND FORM's CARD OF 'tracerylaw23.ScriptApart'. -/
def scriptApartUptoCard : Claim7 := { stood := { row := scriptApartUptoRow, standIns := [], harness := (true, "bf15714f9799aed3b77236a8e92c8855c7379c7c8b2e21991dc93d442b779d27"), looks := false }, kinds := [], alts := [], laidByText := true, laidKinds := [.sentinel], laidTests := true, laidLooks := .later }
def ScriptApartUptoCardSaid : Prop := Claim7.holds Tryd.pinned (.plain (OpenSpec.upto scriptApartSpec)) scriptApartUptoCard

/-- THE SECOND FORM's CARD OF 'tracerylaw23.ScriptParses'. -/
def scriptParsesUptoCard : Claim7 := { stood := { row := scriptParsesUptoRow, standIns := [], harness := (true, "bf15714f9799aed3b77236a8e92c8855c7379c7c8b2e21991dc93d442b779d27"), looks := false }, kinds := [], alts := [], laidByText := true, laidKinds := [.sentinel], laidTests := true, laidLooks := .later }
def ScriptParsesUptoCardSaid : Prop := Claim7.holds Tryd.pinned (.plain (OpenSpec.upto scriptParsesSpec)) scriptParsesUptoCard

/-- THE SECOND FORM's CARD OF 'tracerylaw23.ScriptBack'. -/
def scriptBackUptoCard : Claim7 := { stood := { row := scriptBackUptoRow, standIns := [], harness := (true, "bf15714f9799aed3b77236a8e92c8855c7379c7c8b2e21991dc93d442b779d27"), looks := false }, kinds := [], alts := [], laidByText := true, laidKinds := [.sentinel], laidTests := true, laidLooks := .later }
def ScriptBackUptoCardSaid : Prop := Claim7.holds Tryd.pinned (.plain (OpenSpec.upto scriptBackSpec)) scriptBackUptoCard

/-- THE SECOND FORM's CARD OF 'tracerylaw23.ScriptJoins'. -/
def scriptJoinsUptoCard : Claim7 := { stood := { row := scriptJoinsUptoRow, standIns := [], harness := (true, "bf15714f9799aed3b77236a8e92c8855c7379c7c8b2e21991dc93d442b779d27"), looks := false }, kinds := [], alts := [], laidByText := true, laidKinds := [.sentinel], laidTests := true, laidLooks := .later }
def ScriptJoinsUptoCardSaid : Prop := Claim7.holds Tryd.pinned (.plain (OpenSpec.upto scriptJoinsSpec)) scriptJoinsUptoCard
end Rows
end Go.Proofs.YtfjenamomipmdaaDoor
