/-
  DERIVED. GIVEN WITH THE SEED: THE CARDS: each row of YtlcepoagpocadaaGreatDoorRows.lean that lists a variable, with what it lists TIED to the program's text (the seventh form; the later family's looks); each row that meets fmt, with fmt's text TOLD by the authors' own Lean function (tested against real Go, not proved from fmt's source: count such statements apart). THE CARD IS WHAT COUNTS. Prove the row's statement (the work); the ties are given (YtlcepoagpocadaaGreatDoorTie.lean); close each card by the builder's one call (the guide's Derived/Test/ToyasCard.lean, 'card_holds'). Laid BY PROGRAM, IN A SANDBOX (cutbox-door.mjs). By AI agents, Wed Nov 11 2026. No macro, syntax, notation, axiom, sorry.
-/
import Derived.Test.YtlcepoagpocadaaGreatDoorRows
import GoSem.ClaimSeven
namespace Go.Proofs.YtlcepoagpocadaaGreatDoor
namespace Rows

/-- THE TIED CARD OF 'tiercelaw23.WitnessCrash'. -/
def witnessCrashCard : Claim7 := { stood := { row := witnessCrashRow, standIns := [], harness := (true, "b0bd8ef813939bdcea98bfff258c09299615704674c5992d4fc079a498a15025"), looks := true }, kinds := [], alts := [], laidByText := true, laidKinds := [.data, .data, .data, .data, .pinned], laidTests := true, laidLooks := .later }
def WitnessCrashCardSaid : Prop := Claim7.holds Tryz.pinned (.plain (OpenSpec.ofChange witnessCrashSpec)) witnessCrashCard

/-- THE TIED CARD OF 'tiercelaw22.ModelExact'. -/
def modelExactCard : Claim7 := { stood := { row := modelExactRow, standIns := [], harness := (true, "b0bd8ef813939bdcea98bfff258c09299615704674c5992d4fc079a498a15025"), looks := true }, kinds := [], alts := [], laidByText := true, laidKinds := [.data, .data, .data, .data, .sentinel, .sentinel, .pinned], laidTests := true, laidLooks := .later }
def ModelExactCardSaid : Prop := Claim7.holds Tryz.pinned (.plain (OpenSpec.ofChange modelExactSpec)) modelExactCard

/-- THE TIED CARD OF 'tiercelaw22.ModelSnaps'. -/
def modelSnapsCard : Claim7 := { stood := { row := modelSnapsRow, standIns := [], harness := (true, "b0bd8ef813939bdcea98bfff258c09299615704674c5992d4fc079a498a15025"), looks := true }, kinds := [], alts := [], laidByText := true, laidKinds := [.data, .data, .data, .data, .sentinel, .sentinel, .pinned], laidTests := true, laidLooks := .later }
def ModelSnapsCardSaid : Prop := Claim7.holds Tryz.pinned (.plain (OpenSpec.ofChange modelSnapsSpec)) modelSnapsCard

/-- THE TIED CARD OF 'tiercelaw22.ModelApart'. -/
def modelApartCard : Claim7 := { stood := { row := modelApartRow, standIns := [], harness := (true, "b0bd8ef813939bdcea98bfff258c09299615704674c5992d4fc079a498a15025"), looks := true }, kinds := [], alts := [], laidByText := true, laidKinds := [.data, .data, .data, .data, .sentinel, .sentinel, .pinned], laidTests := true, laidLooks := .later }
def ModelApartCardSaid : Prop := Claim7.holds Tryz.pinned (.plain (OpenSpec.ofChange modelApartSpec)) modelApartCard

/-- THE TIED CARD OF 'tiercelaw22.ModelRestores'. -/
def modelRestoresCard : Claim7 := { stood := { row := modelRestoresRow, standIns := [], harness := (true, "b0bd8ef813939bdcea98bfff258c09299615704674c5992d4fc079a498a15025"), looks := true }, kinds := [], alts := [], laidByText := true, laidKinds := [.data, .data, .data, .data, .sentinel, .sentinel, .pinned], laidTests := true, laidLooks := .later }
def ModelRestoresCardSaid : Prop := Claim7.holds Tryz.pinned (.plain (OpenSpec.ofChange modelRestoresSpec)) modelRestoresCard

/-- THE TIED CARD OF 'tiercelaw23.WitnessModel'. -/
def witnessModelCard : Claim7 := { stood := { row := witnessModelRow, standIns := [], harness := (true, "b0bd8ef813939bdcea98bfff258c09299615704674c5992d4fc079a498a15025"), looks := true }, kinds := [], alts := [], laidByText := true, laidKinds := [.data, .data, .data, .data, .sentinel, .sentinel, .pinned], laidTests := true, laidLooks := .later }
def WitnessModelCardSaid : Prop := Claim7.holds Tryz.pinned (.plain (OpenSpec.ofChange witnessModelSpec)) witnessModelCard

/-- THE SECOND FORM's CARD OF 'tiercelaw23.WitnessCrash'. -/
def witnessCrashUptoCard : Claim7 := { stood := { row := witnessCrashUptoRow, standIns := [], harness := (true, "b0bd8ef813939bdcea98bfff258c09299615704674c5992d4fc079a498a15025"), looks := true }, kinds := [], alts := [], laidByText := true, laidKinds := [.data, .data, .data, .data, .pinned], laidTests := true, laidLooks := .later }
def WitnessCrashUptoCardSaid : Prop := Claim7.holds Tryz.pinned (.plain (OpenSpec.upto witnessCrashSpec)) witnessCrashUptoCard

/-- THE SECOND FORM's CARD OF 'tiercelaw22.ModelExact'. -/
def modelExactUptoCard : Claim7 := { stood := { row := modelExactUptoRow, standIns := [], harness := (true, "b0bd8ef813939bdcea98bfff258c09299615704674c5992d4fc079a498a15025"), looks := true }, kinds := [], alts := [], laidByText := true, laidKinds := [.data, .data, .data, .data, .sentinel, .sentinel, .pinned], laidTests := true, laidLooks := .later }
def ModelExactUptoCardSaid : Prop := Claim7.holds Tryz.pinned (.plain (OpenSpec.upto modelExactSpec)) modelExactUptoCard

/-- THE SECOND FORM's CARD OF 'tiercelaw22.ModelSnaps'. -/
def modelSnapsUptoCard : Claim7 := { stood := { row := modelSnapsUptoRow, standIns := [], harness := (true, "b0bd8ef813939bdcea98bfff258c09299615704674c5992d4fc079a498a15025"), looks := true }, kinds := [], alts := [], laidByText := true, laidKinds := [.data, .data, .data, .data, .sentinel, .sentinel, .pinned], laidTests := true, laidLooks := .later }
def ModelSnapsUptoCardSaid : Prop := Claim7.holds Tryz.pinned (.plain (OpenSpec.upto modelSnapsSpec)) modelSnapsUptoCard

/-- THE SECOND FORM's CARD OF 'tiercelaw22.ModelApart'. -/
def modelApartUptoCard : Claim7 := { stood := { row := modelApartUptoRow, standIns := [], harness := (true, "b0bd8ef813939bdcea98bfff258c09299615704674c5992d4fc079a498a15025"), looks := true }, kinds := [], alts := [], laidByText := true, laidKinds := [.data, .data, .data, .data, .sentinel, .sentinel, .pinned], laidTests := true, laidLooks := .later }
def ModelApartUptoCardSaid : Prop := Claim7.holds Tryz.pinned (.plain (OpenSpec.upto modelApartSpec)) modelApartUptoCard

/-- THE SECOND FORM's CARD OF 'tiercelaw22.ModelRestores'. -/
def modelRestoresUptoCard : Claim7 := { stood := { row := modelRestoresUptoRow, standIns := [], harness := (true, "b0bd8ef813939bdcea98bfff258c09299615704674c5992d4fc079a498a15025"), looks := true }, kinds := [], alts := [], laidByText := true, laidKinds := [.data, .data, .data, .data, .sentinel, .sentinel, .pinned], laidTests := true, laidLooks := .later }
def ModelRestoresUptoCardSaid : Prop := Claim7.holds Tryz.pinned (.plain (OpenSpec.upto modelRestoresSpec)) modelRestoresUptoCard

/-- THE SECOND FORM's CARD OF 'tiercelaw23.WitnessModel'. -/
def witnessModelUptoCard : Claim7 := { stood := { row := witnessModelUptoRow, standIns := [], harness := (true, "b0bd8ef813939bdcea98bfff258c09299615704674c5992d4fc079a498a15025"), looks := true }, kinds := [], alts := [], laidByText := true, laidKinds := [.data, .data, .data, .data, .sentinel, .sentinel, .pinned], laidTests := true, laidLooks := .later }
def WitnessModelUptoCardSaid : Prop := Claim7.holds Tryz.pinned (.plain (OpenSpec.upto witnessModelSpec)) witnessModelUptoCard
end Rows
end Go.Proofs.YtlcepoagpocadaaGreatDoor
