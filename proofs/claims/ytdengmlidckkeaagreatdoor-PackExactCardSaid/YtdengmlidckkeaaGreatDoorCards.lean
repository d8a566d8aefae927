/-
  DERIVED. GIVEN WITH THE SEED: THE CARDS: each row of YtdengmlidckkeaaGreatDoorRows.lean that lists a variable, with what it lists TIED to the program's text (the seventh form; the later family's looks); each row that meets fmt, with fmt's text TOLD by the authors' own Lean function (tested against real Go, not proved from fmt's source: count such statements apart). THE CARD IS WHAT COUNTS. Prove the row's statement (the work); the ties are given (YtdengmlidckkeaaGreatDoorTie.lean); close each card by the builder's one call (the guide's Derived/Test/ToyasCard.lean, 'card_holds'). Laid BY PROGRAM, IN A SANDBOX (cutbox-door.mjs). By AI agents, Wed Nov 11 2026. No macro, syntax, notation, axiom, sorry.
-/
import Derived.Test.YtdengmlidckkeaaGreatDoorRows
import GoSem.ClaimSeven
namespace Go.Proofs.YtdengmlidckkeaaGreatDoor
namespace Rows

/-- THE TIED CARD OF 'tiercelaw20.OrderExact'. -/
def orderExactCard : Claim7 := { stood := { row := orderExactRow, standIns := [], harness := (true, "91e4d058856eee01b9145547c33bd8dd3640b735719a67be5e85f8d7452c2e3f"), looks := true }, kinds := [], alts := [], laidByText := true, laidKinds := [.data, .data, .data, .data, .sentinel, .sentinel, .pinned], laidTests := true, laidLooks := .later }
def OrderExactCardSaid : Prop := Claim7.holds Tryz.pinned (.plain (OpenSpec.ofChange orderExactSpec)) orderExactCard

/-- THE TIED CARD OF 'tiercelaw38.PackExact'. -/
def packExactCard : Claim7 := { stood := { row := packExactRow, standIns := [], harness := (true, "91e4d058856eee01b9145547c33bd8dd3640b735719a67be5e85f8d7452c2e3f"), looks := true }, kinds := [], alts := [], laidByText := true, laidKinds := [.data, .data, .data, .data, .sentinel, .sentinel, .pinned], laidTests := true, laidLooks := .later }
def PackExactCardSaid : Prop := Claim7.holds Tryz.pinned (.plain (OpenSpec.ofChange packExactSpec)) packExactCard

/-- THE TIED CARD OF 'tiercelaw38.PackBack'. -/
def packBackCard : Claim7 := { stood := { row := packBackRow, standIns := [], harness := (true, "91e4d058856eee01b9145547c33bd8dd3640b735719a67be5e85f8d7452c2e3f"), looks := true }, kinds := [], alts := [], laidByText := true, laidKinds := [.data, .data, .data, .data, .sentinel, .sentinel, .pinned], laidTests := true, laidLooks := .later }
def PackBackCardSaid : Prop := Claim7.holds Tryz.pinned (.plain (OpenSpec.ofChange packBackSpec)) packBackCard

/-- THE SECOND FORM's CARD OF 'tiercelaw20.OrderExact'. -/
def orderExactUptoCard : Claim7 := { stood := { row := orderExactUptoRow, standIns := [], harness := (true, "91e4d058856eee01b9145547c33bd8dd3640b735719a67be5e85f8d7452c2e3f"), looks := true }, kinds := [], alts := [], laidByText := true, laidKinds := [.data, .data, .data, .data, .sentinel, .sentinel, .pinned], laidTests := true, laidLooks := .later }
def OrderExactUptoCardSaid : Prop := Claim7.holds Tryz.pinned (.plain (OpenSpec.upto orderExactSpec)) orderExactUptoCard

/-- THE SECOND FORM's CARD OF 'tiercelaw38.PackExact'. -/
def packExactUptoCard : Claim7 := { stood := { row := packExactUptoRow, standIns := [], harness := (true, "91e4d058856eee01b9145547c33bd8dd3640b735719a67be5e85f8d7452c2e3f"), looks := true }, kinds := [], alts := [], laidByText := true, laidKinds := [.data, .data, .data, .data, .sentinel, .sentinel, .pinned], laidTests := true, laidLooks := .later }
def PackExactUptoCardSaid : Prop := Claim7.holds Tryz.pinned (.plain (OpenSpec.upto packExactSpec)) packExactUptoCard

/-- THE SECOND FORM's CARD OF 'tiercelaw38.PackBack'. -/
def packBackUptoCard : Claim7 := { stood := { row := packBackUptoRow, standIns := [], harness := (true, "91e4d058856eee01b9145547c33bd8dd3640b735719a67be5e85f8d7452c2e3f"), looks := true }, kinds := [], alts := [], laidByText := true, laidKinds := [.data, .data, .data, .data, .sentinel, .sentinel, .pinned], laidTests := true, laidLooks := .later }
def PackBackUptoCardSaid : Prop := Claim7.holds Tryz.pinned (.plain (OpenSpec.upto packBackSpec)) packBackUptoCard
end Rows
end Go.Proofs.YtdengmlidckkeaaGreatDoor
