/-
  No cell of these rows narrows 'for every input' (looked for: loops, veiled, ifaces, maps, wideKeys, modest, calm, conditions, laid).
  DERIVED. THE GIVEN ROWS OF THIS SEAT. 9 by the template 'for every input the law returns true; each argument reads behind the call as it read before'; 0 by the template 'total and deterministic' (their statements: YtifkdjecdmmegaaTotals.lean).
  GIVEN WITH THE SEED: the statements are not yours to turn. If you find one false, say at which input.
  Laid BY PROGRAM, IN A SANDBOX (cutbox-rows.mjs): the forced cells as the released guide's own fill.sh prints them over the translation 4d055599e0a568ec… (all of the seat's roots in one cut). By AI agents, Wed Nov 11 2026. No macro, syntax, notation, axiom, sorry.
-/
import Derived.Test.YtifkdjecdmmegaaChecked
import GoSem.Claim
import GoSem.ClaimJoined
import GoSem.ClaimMapViews
import Derived.JoinedTies
import Derived.KernelRfl
namespace Go.Proofs.Ytifkdjecdmmegaa
/- THE CELL 'sum', in the pinned program and in every row, IS THE sha256 OF THE DUMP (.gsa) THAT YtifkdjecdmmegaaProg.lean LOADS. Nothing in Lean hashes anything: it is a label: what it is worth is what the hold of that sum in a sandbox is worth. -/
noncomputable def Try.pinned : Pinned := { name := "ytifkdjecdmmegaa", sum := "4d055599e0a568ece2f1afc35b1081111f68dd9feac80e67a2b9691ed10752e4", checked := Try.checked }
namespace Rows
def none {H : Type} : Left H := { results := [], args := [] }

/-- 'tiercelaw17.MoveExact': WHATEVER THE INPUT: true; the input reads as it did. -/
def moveExactSpec : ChangeSpec := { name := "moveExact", fn := fun _ => fun
  | [d] => { results := [.lit (.bool true)], args := [d] }
  | _ => none }
def moveExactRow : OpenClaim := { program := "ytifkdjecdmmegaa", sum := "4d055599e0a568ece2f1afc35b1081111f68dd9feac80e67a2b9691ed10752e4", func := "tierce/tiercelaw17.MoveExact", spec := "moveExact", apart := false }
def MoveExactSaid : Prop := moveExactRow.holds Try.pinned (OpenSpec.ofChange moveExactSpec)

/-- ITS FALSE NEIGHBOUR: 'it returns false'. Refute it at one input. -/
def moveExactWrong : ChangeSpec := { name := "moveExact", fn := fun _ => fun
  | [d] => { results := [.lit (.bool false)], args := [d] }
  | _ => none }
def MoveExactWrongFalsely : Prop := moveExactRow.holds Try.pinned (OpenSpec.ofChange moveExactWrong)

/-- 'tiercelaw17.MoveEnds': WHATEVER THE INPUT: true; the input reads as it did. -/
def moveEndsSpec : ChangeSpec := { name := "moveEnds", fn := fun _ => fun
  | [d1, d2] => { results := [.lit (.bool true)], args := [d1, d2] }
  | _ => none }
def moveEndsRow : OpenClaim := { program := "ytifkdjecdmmegaa", sum := "4d055599e0a568ece2f1afc35b1081111f68dd9feac80e67a2b9691ed10752e4", func := "tierce/tiercelaw17.MoveEnds", spec := "moveEnds", apart := false }
def MoveEndsSaid : Prop := moveEndsRow.holds Try.pinned (OpenSpec.ofChange moveEndsSpec)

/-- ITS FALSE NEIGHBOUR: 'it returns false'. Refute it at one input. -/
def moveEndsWrong : ChangeSpec := { name := "moveEnds", fn := fun _ => fun
  | [d1, d2] => { results := [.lit (.bool false)], args := [d1, d2] }
  | _ => none }
def MoveEndsWrongFalsely : Prop := moveEndsRow.holds Try.pinned (OpenSpec.ofChange moveEndsWrong)

/-- 'tiercelaw17.MoveBack': WHATEVER THE INPUT: true; the input reads as it did. -/
def moveBackSpec : ChangeSpec := { name := "moveBack", fn := fun _ => fun
  | [d1, d2, d3] => { results := [.lit (.bool true)], args := [d1, d2, d3] }
  | _ => none }
def moveBackRow : OpenClaim := { program := "ytifkdjecdmmegaa", sum := "4d055599e0a568ece2f1afc35b1081111f68dd9feac80e67a2b9691ed10752e4", func := "tierce/tiercelaw17.MoveBack", spec := "moveBack", apart := false }
def MoveBackSaid : Prop := moveBackRow.holds Try.pinned (OpenSpec.ofChange moveBackSpec)

/-- ITS FALSE NEIGHBOUR: 'it returns false'. Refute it at one input. -/
def moveBackWrong : ChangeSpec := { name := "moveBack", fn := fun _ => fun
  | [d1, d2, d3] => { results := [.lit (.bool false)], args := [d1, d2, d3] }
  | _ => none }
def MoveBackWrongFalsely : Prop := moveBackRow.holds Try.pinned (OpenSpec.ofChange moveBackWrong)

/-- 'tiercelaw34.AlarmOrder': WHATEVER THE INPUT: true; the input reads as it did. -/
def alarmOrderSpec : ChangeSpec := { name := "alarmOrder", fn := fun _ => fun
  | [d1, d2, d3, d4, d5] => { results := [.lit (.bool true)], args := [d1, d2, d3, d4, d5] }
  | _ => none }
def alarmOrderRow : OpenClaim := { program := "ytifkdjecdmmegaa", sum := "4d055599e0a568ece2f1afc35b1081111f68dd9feac80e67a2b9691ed10752e4", func := "tierce/tiercelaw34.AlarmOrder", spec := "alarmOrder", apart := false }
def AlarmOrderSaid : Prop := alarmOrderRow.holds Try.pinned (OpenSpec.ofChange alarmOrderSpec)

/-- ITS FALSE NEIGHBOUR: 'it returns false'. Refute it at one input. -/
def alarmOrderWrong : ChangeSpec := { name := "alarmOrder", fn := fun _ => fun
  | [d1, d2, d3, d4, d5] => { results := [.lit (.bool false)], args := [d1, d2, d3, d4, d5] }
  | _ => none }
def AlarmOrderWrongFalsely : Prop := alarmOrderRow.holds Try.pinned (OpenSpec.ofChange alarmOrderWrong)

/-- 'tiercelaw34.AlarmExact': WHATEVER THE INPUT: true; the input reads as it did. -/
def alarmExactSpec : ChangeSpec := { name := "alarmExact", fn := fun _ => fun
  | [d1, d2, d3] => { results := [.lit (.bool true)], args := [d1, d2, d3] }
  | _ => none }
def alarmExactRow : OpenClaim := { program := "ytifkdjecdmmegaa", sum := "4d055599e0a568ece2f1afc35b1081111f68dd9feac80e67a2b9691ed10752e4", func := "tierce/tiercelaw34.AlarmExact", spec := "alarmExact", apart := false }
def AlarmExactSaid : Prop := alarmExactRow.holds Try.pinned (OpenSpec.ofChange alarmExactSpec)

/-- ITS FALSE NEIGHBOUR: 'it returns false'. Refute it at one input. -/
def alarmExactWrong : ChangeSpec := { name := "alarmExact", fn := fun _ => fun
  | [d1, d2, d3] => { results := [.lit (.bool false)], args := [d1, d2, d3] }
  | _ => none }
def AlarmExactWrongFalsely : Prop := alarmExactRow.holds Try.pinned (OpenSpec.ofChange alarmExactWrong)

/-- 'tiercelaw34.AlarmCalm': WHATEVER THE INPUT: true; the input reads as it did. -/
def alarmCalmSpec : ChangeSpec := { name := "alarmCalm", fn := fun _ => fun
  | [d1, d2, d3] => { results := [.lit (.bool true)], args := [d1, d2, d3] }
  | _ => none }
def alarmCalmRow : OpenClaim := { program := "ytifkdjecdmmegaa", sum := "4d055599e0a568ece2f1afc35b1081111f68dd9feac80e67a2b9691ed10752e4", func := "tierce/tiercelaw34.AlarmCalm", spec := "alarmCalm", apart := false }
def AlarmCalmSaid : Prop := alarmCalmRow.holds Try.pinned (OpenSpec.ofChange alarmCalmSpec)

/-- ITS FALSE NEIGHBOUR: 'it returns false'. Refute it at one input. -/
def alarmCalmWrong : ChangeSpec := { name := "alarmCalm", fn := fun _ => fun
  | [d1, d2, d3] => { results := [.lit (.bool false)], args := [d1, d2, d3] }
  | _ => none }
def AlarmCalmWrongFalsely : Prop := alarmCalmRow.holds Try.pinned (OpenSpec.ofChange alarmCalmWrong)

/-- 'tiercelaw26.DiceExact': WHATEVER THE INPUT: true; the input reads as it did. -/
def diceExactSpec : ChangeSpec := { name := "diceExact", fn := fun _ => fun
  | [d1, d2] => { results := [.lit (.bool true)], args := [d1, d2] }
  | _ => none }
def diceExactRow : OpenClaim := { program := "ytifkdjecdmmegaa", sum := "4d055599e0a568ece2f1afc35b1081111f68dd9feac80e67a2b9691ed10752e4", func := "tierce/tiercelaw26.DiceExact", spec := "diceExact", apart := false }
def DiceExactSaid : Prop := diceExactRow.holds Try.pinned (OpenSpec.ofChange diceExactSpec)

/-- ITS FALSE NEIGHBOUR: 'it returns false'. Refute it at one input. -/
def diceExactWrong : ChangeSpec := { name := "diceExact", fn := fun _ => fun
  | [d1, d2] => { results := [.lit (.bool false)], args := [d1, d2] }
  | _ => none }
def DiceExactWrongFalsely : Prop := diceExactRow.holds Try.pinned (OpenSpec.ofChange diceExactWrong)

/-- 'tiercelaw26.DiceBounds': WHATEVER THE INPUT: true; the input reads as it did. -/
def diceBoundsSpec : ChangeSpec := { name := "diceBounds", fn := fun _ => fun
  | [d1, d2, d3] => { results := [.lit (.bool true)], args := [d1, d2, d3] }
  | _ => none }
def diceBoundsRow : OpenClaim := { program := "ytifkdjecdmmegaa", sum := "4d055599e0a568ece2f1afc35b1081111f68dd9feac80e67a2b9691ed10752e4", func := "tierce/tiercelaw26.DiceBounds", spec := "diceBounds", apart := false }
def DiceBoundsSaid : Prop := diceBoundsRow.holds Try.pinned (OpenSpec.ofChange diceBoundsSpec)

/-- ITS FALSE NEIGHBOUR: 'it returns false'. Refute it at one input. -/
def diceBoundsWrong : ChangeSpec := { name := "diceBounds", fn := fun _ => fun
  | [d1, d2, d3] => { results := [.lit (.bool false)], args := [d1, d2, d3] }
  | _ => none }
def DiceBoundsWrongFalsely : Prop := diceBoundsRow.holds Try.pinned (OpenSpec.ofChange diceBoundsWrong)

/-- 'tiercelaw26.DiceOne': WHATEVER THE INPUT: true; the input reads as it did. -/
def diceOneSpec : ChangeSpec := { name := "diceOne", fn := fun _ => fun
  | [d1, d2] => { results := [.lit (.bool true)], args := [d1, d2] }
  | _ => none }
def diceOneRow : OpenClaim := { program := "ytifkdjecdmmegaa", sum := "4d055599e0a568ece2f1afc35b1081111f68dd9feac80e67a2b9691ed10752e4", func := "tierce/tiercelaw26.DiceOne", spec := "diceOne", apart := false }
def DiceOneSaid : Prop := diceOneRow.holds Try.pinned (OpenSpec.ofChange diceOneSpec)

/-- ITS FALSE NEIGHBOUR: 'it returns false'. Refute it at one input. -/
def diceOneWrong : ChangeSpec := { name := "diceOne", fn := fun _ => fun
  | [d1, d2] => { results := [.lit (.bool false)], args := [d1, d2] }
  | _ => none }
def DiceOneWrongFalsely : Prop := diceOneRow.holds Try.pinned (OpenSpec.ofChange diceOneWrong)

/- THE SECOND FORM. 'bulk': how many values and letters a reading holds, each counted each time it is reached (what is shared counts as often as it is met; a slice's spare places count too). A statement '..UptoSaid' is the law's where the arguments, and the package variables that the reading takes, are together of bulk at most 1048576: NARROWER than '..Said'. Prove '..Said' where nothing that the law and all that it calls make is longer than what came in: it says more and counts as full. Else prove '..UptoSaid'. A law counts once. -/
mutual
def uptoBulk {H : Type} : DataW H → Nat
  | .lit (.string bytes) => bytes.length + 1
  | .lit _ => 1
  | .nil => 1
  | .ptr d => uptoBulk d + 1
  | .slice elems spare => uptoBulkAll elems + uptoBulkAll spare + 1
  | .agg parts => uptoBulkAll parts + 1
  | .iface _ d => uptoBulk d + 1
  | .map entries => uptoBulkEntries entries + 1
  | .held _ => 1
def uptoBulkAll {H : Type} : List (DataW H) → Nat
  | [] => 0
  | d :: r => uptoBulk d + uptoBulkAll r
def uptoBulkEntries {H : Type} : List (Lit × DataW H) → Nat
  | [] => 0
  | x :: r => uptoBulkEntry x + uptoBulkEntries r
def uptoBulkEntry {H : Type} : Lit × DataW H → Nat
  | (.string bytes, d) => bytes.length + uptoBulk d + 1
  | (_, d) => uptoBulk d + 1
 end
def uptoSmall : (H : Type) → List (DataW H) → Bool := fun _ ds => decide (uptoBulkAll ds ≤ 1048576)
def OpenSpec.upto (s : _root_.Go.ChangeSpec) : _root_.Go.OpenSpec := { _root_.Go.OpenSpec.ofChange s with cond := some uptoSmall }

/-- 'tiercelaw17.MoveExact', WHERE WHAT IT READS IS OF BULK AT MOST 1048576: true; the input reads as it did. -/
def moveExactUptoRow : OpenClaim := { program := "ytifkdjecdmmegaa", sum := "4d055599e0a568ece2f1afc35b1081111f68dd9feac80e67a2b9691ed10752e4", func := "tierce/tiercelaw17.MoveExact", spec := "moveExact", apart := false, narrowed := true }
def MoveExactUptoSaid : Prop := moveExactUptoRow.holds Try.pinned (OpenSpec.upto moveExactSpec)

/-- 'tiercelaw17.MoveEnds', WHERE WHAT IT READS IS OF BULK AT MOST 1048576: true; the input reads as it did. -/
def moveEndsUptoRow : OpenClaim := { program := "ytifkdjecdmmegaa", sum := "4d055599e0a568ece2f1afc35b1081111f68dd9feac80e67a2b9691ed10752e4", func := "tierce/tiercelaw17.MoveEnds", spec := "moveEnds", apart := false, narrowed := true }
def MoveEndsUptoSaid : Prop := moveEndsUptoRow.holds Try.pinned (OpenSpec.upto moveEndsSpec)

/-- 'tiercelaw17.MoveBack', WHERE WHAT IT READS IS OF BULK AT MOST 1048576: true; the input reads as it did. -/
def moveBackUptoRow : OpenClaim := { program := "ytifkdjecdmmegaa", sum := "4d055599e0a568ece2f1afc35b1081111f68dd9feac80e67a2b9691ed10752e4", func := "tierce/tiercelaw17.MoveBack", spec := "moveBack", apart := false, narrowed := true }
def MoveBackUptoSaid : Prop := moveBackUptoRow.holds Try.pinned (OpenSpec.upto moveBackSpec)

/-- 'tiercelaw34.AlarmOrder', WHERE WHAT IT READS IS OF BULK AT MOST 1048576: true; the input reads as it did. -/
def alarmOrderUptoRow : OpenClaim := { program := "ytifkdjecdmmegaa", sum := "4d055599e0a568ece2f1afc35b1081111f68dd9feac80e67a2b9691ed10752e4", func := "tierce/tiercelaw34.AlarmOrder", spec := "alarmOrder", apart := false, narrowed := true }
def AlarmOrderUptoSaid : Prop := alarmOrderUptoRow.holds Try.pinned (OpenSpec.upto alarmOrderSpec)

/-- 'tiercelaw34.AlarmExact', WHERE WHAT IT READS IS OF BULK AT MOST 1048576: true; the input reads as it did. -/
def alarmExactUptoRow : OpenClaim := { program := "ytifkdjecdmmegaa", sum := "4d055599e0a568ece2f1afc35b1081111f68dd9feac80e67a2b9691ed10752e4", func := "tierce/tiercelaw34.AlarmExact", spec := "alarmExact", apart := false, narrowed := true }
def AlarmExactUptoSaid : Prop := alarmExactUptoRow.holds Try.pinned (OpenSpec.upto alarmExactSpec)

/-- 'tiercelaw34.AlarmCalm', WHERE WHAT IT READS IS OF BULK AT MOST 1048576: true; the input reads as it did. -/
def alarmCalmUptoRow : OpenClaim := { program := "ytifkdjecdmmegaa", sum := "4d055599e0a568ece2f1afc35b1081111f68dd9feac80e67a2b9691ed10752e4", func := "tierce/tiercelaw34.AlarmCalm", spec := "alarmCalm", apart := false, narrowed := true }
def AlarmCalmUptoSaid : Prop := alarmCalmUptoRow.holds Try.pinned (OpenSpec.upto alarmCalmSpec)

/-- 'tiercelaw26.DiceExact', WHERE WHAT IT READS IS OF BULK AT MOST 1048576: true; the input reads as it did. -/
def diceExactUptoRow : OpenClaim := { program := "ytifkdjecdmmegaa", sum := "4d055599e0a568ece2f1afc35b1081111f68dd9feac80e67a2b9691ed10752e4", func := "tierce/tiercelaw26.DiceExact", spec := "diceExact", apart := false, narrowed := true }
def DiceExactUptoSaid : Prop := diceExactUptoRow.holds Try.pinned (OpenSpec.upto diceExactSpec)

/-- 'tiercelaw26.DiceBounds', WHERE WHAT IT READS IS OF BULK AT MOST 1048576: true; the input reads as it did. -/
def diceBoundsUptoRow : OpenClaim := { program := "ytifkdjecdmmegaa", sum := "4d055599e0a568ece2f1afc35b1081111f68dd9feac80e67a2b9691ed10752e4", func := "tierce/tiercelaw26.DiceBounds", spec := "diceBounds", apart := false, narrowed := true }
def DiceBoundsUptoSaid : Prop := diceBoundsUptoRow.holds Try.pinned (OpenSpec.upto diceBoundsSpec)

/-- 'tiercelaw26.DiceOne', WHERE WHAT IT READS IS OF BULK AT MOST 1048576: true; the input reads as it did. -/
def diceOneUptoRow : OpenClaim := { program := "ytifkdjecdmmegaa", sum := "4d055599e0a568ece2f1afc35b1081111f68dd9feac80e67a2b9691ed10752e4", func := "tierce/tiercelaw26.DiceOne", spec := "diceOne", apart := false, narrowed := true }
def DiceOneUptoSaid : Prop := diceOneUptoRow.holds Try.pinned (OpenSpec.upto diceOneSpec)

end Rows
end Go.Proofs.Ytifkdjecdmmegaa
