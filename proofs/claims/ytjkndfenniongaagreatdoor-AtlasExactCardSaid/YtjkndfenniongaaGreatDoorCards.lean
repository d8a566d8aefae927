/-
  DERIVED. GIVEN WITH THE SEED: THE CARDS: each row of YtjkndfenniongaaGreatDoorRows.lean that lists a variable, with what it lists TIED to the program's text (the seventh form; the later family's looks); each row that meets fmt, with fmt's text TOLD by the authors' own Lean function (tested against real Go, not proved from fmt's source: count such statements apart). THE CARD IS WHAT COUNTS. Prove the row's statement (the work); the ties are given (YtjkndfenniongaaGreatDoorTie.lean); close each card by the builder's one call (the guide's Derived/Test/ToyasCard.lean, 'card_holds'). Laid BY PROGRAM, IN A SANDBOX (cutbox-door.mjs). By AI agents, Wed Nov 11 2026. No macro, syntax, notation, axiom, sorry.
-/
import Derived.Test.YtjkndfenniongaaGreatDoorRows
import GoSem.ClaimSeven
namespace Go.Proofs.YtjkndfenniongaaGreatDoor
namespace Rows

/-- THE TIED CARD OF 'tiercelaw33.AtlasExact'. -/
def atlasExactCard : Claim7 := { stood := { row := atlasExactRow, standIns := [], harness := (true, "8cf14f369fc09e37bf61266f63f4ffeb350d934e6590f682f23dd64046bfe572"), looks := false }, kinds := [], alts := [], laidByText := true, laidKinds := [.data, .pinned], laidTests := true, laidLooks := .later }
def AtlasExactCardSaid : Prop := Claim7.holds Tryz.pinned (.plain (OpenSpec.ofChange atlasExactSpec)) atlasExactCard

/-- THE TIED CARD OF 'tiercelaw33.AtlasText'. -/
def atlasTextCard : Claim7 := { stood := { row := atlasTextRow, standIns := [], harness := (true, "8cf14f369fc09e37bf61266f63f4ffeb350d934e6590f682f23dd64046bfe572"), looks := false }, kinds := [], alts := [], laidByText := true, laidKinds := [.data, .pinned], laidTests := true, laidLooks := .later }
def AtlasTextCardSaid : Prop := Claim7.holds Tryz.pinned (.plain (OpenSpec.ofChange atlasTextSpec)) atlasTextCard

/-- THE SECOND FORM's CARD OF 'tiercelaw33.AtlasExact'. -/
def atlasExactUptoCard : Claim7 := { stood := { row := atlasExactUptoRow, standIns := [], harness := (true, "8cf14f369fc09e37bf61266f63f4ffeb350d934e6590f682f23dd64046bfe572"), looks := false }, kinds := [], alts := [], laidByText := true, laidKinds := [.data, .pinned], laidTests := true, laidLooks := .later }
def AtlasExactUptoCardSaid : Prop := Claim7.holds Tryz.pinned (.plain (OpenSpec.upto atlasExactSpec)) atlasExactUptoCard

/-- THE SECOND FORM's CARD OF 'tiercelaw33.AtlasText'. -/
def atlasTextUptoCard : Claim7 := { stood := { row := atlasTextUptoRow, standIns := [], harness := (true, "8cf14f369fc09e37bf61266f63f4ffeb350d934e6590f682f23dd64046bfe572"), looks := false }, kinds := [], alts := [], laidByText := true, laidKinds := [.data, .pinned], laidTests := true, laidLooks := .later }
def AtlasTextUptoCardSaid : Prop := Claim7.holds Tryz.pinned (.plain (OpenSpec.upto atlasTextSpec)) atlasTextUptoCard
end Rows
end Go.Proofs.YtjkndfenniongaaGreatDoor
