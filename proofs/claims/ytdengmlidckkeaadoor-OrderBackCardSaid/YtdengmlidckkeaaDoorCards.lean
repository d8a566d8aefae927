/-
  DERIVED. GIVEN WITH THE SEED: THE CARDS: each row of YtdengmlidckkeaaDoorRows.lean that lists a variable, with what it lists TIED to the program's text (the seventh form; the later family's looks); each row that meets fmt, with fmt's text TOLD by the authors' own Lean function (tested against real Go, not proved from fmt's source: count such statements apart). THE CARD IS WHAT COUNTS. Prove the row's statement (the work); the ties are given (YtdengmlidckkeaaDoorTie.lean); close each card by the builder's one call (the guide's Derived/Test/ToyasCard.lean, 'card_holds'). Laid BY PROGRAM, IN A SANDBOX (cutbox-door.mjs). By AI agents, Wed Nov 11 2026. No macro, syntax, notation, axiom, sorry.
-/
import Derived.Test.YtdengmlidckkeaaDoorRows
import GoSem.ClaimSeven
namespace Go.Proofs.YtdengmlidckkeaaDoor
namespace Rows

/-- THE TIED CARD OF 'tiercelaw38.PackMany'. -/
def packManyCard : Claim7 := { stood := { row := packManyRow, standIns := [], harness := (true, "a102f0baf138ad90d6fb1fe175da0b870b86d55a017dbb1f8c5444d770d34834"), looks := true }, kinds := [], alts := [], laidByText := true, laidKinds := [.data, .data, .data], laidTests := true, laidLooks := .later }
def PackManyCardSaid : Prop := Claim7.holds Tryd.pinned (.plain (OpenSpec.ofChange packManySpec)) packManyCard

/-- THE TIED CARD OF 'tiercelaw20.OrderParts'. -/
def orderPartsCard : Claim7 := { stood := { row := orderPartsRow, standIns := [], harness := (true, "a102f0baf138ad90d6fb1fe175da0b870b86d55a017dbb1f8c5444d770d34834"), looks := true }, kinds := [], alts := [], laidByText := true, laidKinds := [.data, .data, .data, .data, .sentinel, .sentinel, .pinned], laidTests := true, laidLooks := .later }
def OrderPartsCardSaid : Prop := Claim7.holds Tryd.pinned (.plain (OpenSpec.ofChange orderPartsSpec)) orderPartsCard

/-- THE TIED CARD OF 'tiercelaw20.OrderWide'. -/
def orderWideCard : Claim7 := { stood := { row := orderWideRow, standIns := [], harness := (true, "a102f0baf138ad90d6fb1fe175da0b870b86d55a017dbb1f8c5444d770d34834"), looks := true }, kinds := [], alts := [], laidByText := true, laidKinds := [.data, .data, .data, .data, .sentinel, .sentinel, .pinned], laidTests := true, laidLooks := .later }
def OrderWideCardSaid : Prop := Claim7.holds Tryd.pinned (.plain (OpenSpec.ofChange orderWideSpec)) orderWideCard

/-- THE TIED CARD OF 'tiercelaw20.OrderBack'. -/
def orderBackCard : Claim7 := { stood := { row := orderBackRow, standIns := [], harness := (true, "a102f0baf138ad90d6fb1fe175da0b870b86d55a017dbb1f8c5444d770d34834"), looks := true }, kinds := [], alts := [], laidByText := true, laidKinds := [.data, .data, .data, .data, .sentinel, .sentinel, .pinned], laidTests := true, laidLooks := .later }
def OrderBackCardSaid : Prop := Claim7.holds Tryd.pinned (.plain (OpenSpec.ofChange orderBackSpec)) orderBackCard

/-- THE SECOND FORM's CARD OF 'tiercelaw38.PackMany'. -/
def packManyUptoCard : Claim7 := { stood := { row := packManyUptoRow, standIns := [], harness := (true, "a102f0baf138ad90d6fb1fe175da0b870b86d55a017dbb1f8c5444d770d34834"), looks := true }, kinds := [], alts := [], laidByText := true, laidKinds := [.data, .data, .data], laidTests := true, laidLooks := .later }
def PackManyUptoCardSaid : Prop := Claim7.holds Tryd.pinned (.plain (OpenSpec.upto packManySpec)) packManyUptoCard

/-- THE SECOND FORM's CARD OF 'tiercelaw20.OrderParts'. -/
def orderPartsUptoCard : Claim7 := { stood := { row := orderPartsUptoRow, standIns := [], harness := (true, "a102f0baf138ad90d6fb1fe175da0b870b86d55a017dbb1f8c5444d770d34834"), looks := true }, kinds := [], alts := [], laidByText := true, laidKinds := [.data, .data, .data, .data, .sentinel, .sentinel, .pinned], laidTests := true, laidLooks := .later }
def OrderPartsUptoCardSaid : Prop := Claim7.holds Tryd.pinned (.plain (OpenSpec.upto orderPartsSpec)) orderPartsUptoCard

/-- THE SECOND FORM's CARD OF 'tiercelaw20.OrderWide'. -/
def orderWideUptoCard : Claim7 := { stood := { row := orderWideUptoRow, standIns := [], harness := (true, "a102f0baf138ad90d6fb1fe175da0b870b86d55a017dbb1f8c5444d770d34834"), looks := true }, kinds := [], alts := [], laidByText := true, laidKinds := [.data, .data, .data, .data, .sentinel, .sentinel, .pinned], laidTests := true, laidLooks := .later }
def OrderWideUptoCardSaid : Prop := Claim7.holds Tryd.pinned (.plain (OpenSpec.upto orderWideSpec)) orderWideUptoCard

/-- THE SECOND FORM's CARD OF 'tiercelaw20.OrderBack'. -/
def orderBackUptoCard : Claim7 := { stood := { row := orderBackUptoRow, standIns := [], harness := (true, "a102f0baf138ad90d6fb1fe175da0b870b86d55a017dbb1f8c5444d770d34834"), looks := true }, kinds := [], alts := [], laidByText := true, laidKinds := [.data, .data, .data, .data, .sentinel, .sentinel, .pinned], laidTests := true, laidLooks := .later }
def OrderBackUptoCardSaid : Prop := Claim7.holds Tryd.pinned (.plain (OpenSpec.upto orderBackSpec)) orderBackUptoCard
end Rows
end Go.Proofs.YtdengmlidckkeaaDoor
