/-
  No cell of these rows narrows 'for every input' (looked for: loops, veiled, ifaces, maps, wideKeys, modest, calm, conditions, laid).
  DERIVED. THE GIVEN ROWS OF THIS SEAT. 6 by the template 'for every input the law returns true; each argument reads behind the call as it read before'; 0 by the template 'total and deterministic' (their statements: YteommjbbjdbhkaaTotals.lean).
  GIVEN WITH THE SEED: the statements are not yours to turn. If you find one false, say at which input.
  Laid BY PROGRAM, IN A SANDBOX (cutbox-rows.mjs): the forced cells as the released guide's own fill.sh prints them over the translation 81e2d8180499ece5… (all of the seat's roots in one cut). By AI agents, Wed Nov 11 2026. No macro, syntax, notation, axiom, sorry.
-/
import Derived.Test.YteommjbbjdbhkaaChecked
import GoSem.Claim
import GoSem.ClaimJoined
import GoSem.ClaimMapViews
import Derived.JoinedTies
import Derived.KernelRfl
namespace Go.Proofs.Yteommjbbjdbhkaa
/- THE CELL 'sum', in the pinned program and in every row, IS THE sha256 OF THE DUMP (.gsa) THAT YteommjbbjdbhkaaProg.lean LOADS. Nothing in Lean hashes anything: it is a label: what it is worth is what the hold of that sum in a sandbox is worth. -/
noncomputable def Try.pinned : Pinned := { name := "yteommjbbjdbhkaa", sum := "81e2d8180499ece5871f485b55edb54fda52a08966a162e757cb94507ffcd872", checked := Try.checked }
namespace Rows
def none {H : Type} : Left H := { results := [], args := [] }

/-- 'tiercelaw10.SlotsAgain': WHATEVER THE INPUT: true; the input reads as it did. -/
def slotsAgainSpec : ChangeSpec := { name := "slotsAgain", fn := fun _ => fun
  | [d1, d2] => { results := [.lit (.bool true)], args := [d1, d2] }
  | _ => none }
def slotsAgainRow : OpenClaim := { program := "yteommjbbjdbhkaa", sum := "81e2d8180499ece5871f485b55edb54fda52a08966a162e757cb94507ffcd872", func := "tierce/tiercelaw10.SlotsAgain", spec := "slotsAgain", apart := false }
def SlotsAgainSaid : Prop := slotsAgainRow.holds Try.pinned (OpenSpec.ofChange slotsAgainSpec)

/-- ITS FALSE NEIGHBOUR: 'it returns false'. Refute it at one input. -/
def slotsAgainWrong : ChangeSpec := { name := "slotsAgain", fn := fun _ => fun
  | [d1, d2] => { results := [.lit (.bool false)], args := [d1, d2] }
  | _ => none }
def SlotsAgainWrongFalsely : Prop := slotsAgainRow.holds Try.pinned (OpenSpec.ofChange slotsAgainWrong)

/-- 'tiercelaw10.SlotsExact': WHATEVER THE INPUT: true; the input reads as it did. -/
def slotsExactSpec : ChangeSpec := { name := "slotsExact", fn := fun _ => fun
  | [d1, d2] => { results := [.lit (.bool true)], args := [d1, d2] }
  | _ => none }
def slotsExactRow : OpenClaim := { program := "yteommjbbjdbhkaa", sum := "81e2d8180499ece5871f485b55edb54fda52a08966a162e757cb94507ffcd872", func := "tierce/tiercelaw10.SlotsExact", spec := "slotsExact", apart := false }
def SlotsExactSaid : Prop := slotsExactRow.holds Try.pinned (OpenSpec.ofChange slotsExactSpec)

/-- ITS FALSE NEIGHBOUR: 'it returns false'. Refute it at one input. -/
def slotsExactWrong : ChangeSpec := { name := "slotsExact", fn := fun _ => fun
  | [d1, d2] => { results := [.lit (.bool false)], args := [d1, d2] }
  | _ => none }
def SlotsExactWrongFalsely : Prop := slotsExactRow.holds Try.pinned (OpenSpec.ofChange slotsExactWrong)

/-- 'tiercelaw10.SlotsKeep': WHATEVER THE INPUT: true; the input reads as it did. -/
def slotsKeepSpec : ChangeSpec := { name := "slotsKeep", fn := fun _ => fun
  | [d1, d2] => { results := [.lit (.bool true)], args := [d1, d2] }
  | _ => none }
def slotsKeepRow : OpenClaim := { program := "yteommjbbjdbhkaa", sum := "81e2d8180499ece5871f485b55edb54fda52a08966a162e757cb94507ffcd872", func := "tierce/tiercelaw10.SlotsKeep", spec := "slotsKeep", apart := false }
def SlotsKeepSaid : Prop := slotsKeepRow.holds Try.pinned (OpenSpec.ofChange slotsKeepSpec)

/-- ITS FALSE NEIGHBOUR: 'it returns false'. Refute it at one input. -/
def slotsKeepWrong : ChangeSpec := { name := "slotsKeep", fn := fun _ => fun
  | [d1, d2] => { results := [.lit (.bool false)], args := [d1, d2] }
  | _ => none }
def SlotsKeepWrongFalsely : Prop := slotsKeepRow.holds Try.pinned (OpenSpec.ofChange slotsKeepWrong)

/-- 'tiercelaw16.RankExact': WHATEVER THE INPUT: true; the input reads as it did. -/
def rankExactSpec : ChangeSpec := { name := "rankExact", fn := fun _ => fun
  | [d1, d2, d3, d4] => { results := [.lit (.bool true)], args := [d1, d2, d3, d4] }
  | _ => none }
def rankExactRow : OpenClaim := { program := "yteommjbbjdbhkaa", sum := "81e2d8180499ece5871f485b55edb54fda52a08966a162e757cb94507ffcd872", func := "tierce/tiercelaw16.RankExact", spec := "rankExact", unfollowed := true, recurses := true, apart := false }
def RankExactSaid : Prop := rankExactRow.holds Try.pinned (OpenSpec.ofChange rankExactSpec)

/-- ITS FALSE NEIGHBOUR: 'it returns false'. Refute it at one input. -/
def rankExactWrong : ChangeSpec := { name := "rankExact", fn := fun _ => fun
  | [d1, d2, d3, d4] => { results := [.lit (.bool false)], args := [d1, d2, d3, d4] }
  | _ => none }
def RankExactWrongFalsely : Prop := rankExactRow.holds Try.pinned (OpenSpec.ofChange rankExactWrong)

/-- 'tiercelaw16.RankPinned': WHATEVER THE INPUT: true; the input reads as it did. -/
def rankPinnedSpec : ChangeSpec := { name := "rankPinned", fn := fun _ => fun
  | [d1, d2, d3] => { results := [.lit (.bool true)], args := [d1, d2, d3] }
  | _ => none }
def rankPinnedRow : OpenClaim := { program := "yteommjbbjdbhkaa", sum := "81e2d8180499ece5871f485b55edb54fda52a08966a162e757cb94507ffcd872", func := "tierce/tiercelaw16.RankPinned", spec := "rankPinned", unfollowed := true, recurses := true, apart := false }
def RankPinnedSaid : Prop := rankPinnedRow.holds Try.pinned (OpenSpec.ofChange rankPinnedSpec)

/-- ITS FALSE NEIGHBOUR: 'it returns false'. Refute it at one input. -/
def rankPinnedWrong : ChangeSpec := { name := "rankPinned", fn := fun _ => fun
  | [d1, d2, d3] => { results := [.lit (.bool false)], args := [d1, d2, d3] }
  | _ => none }
def RankPinnedWrongFalsely : Prop := rankPinnedRow.holds Try.pinned (OpenSpec.ofChange rankPinnedWrong)

/-- 'tiercelaw16.RankLevels': WHATEVER THE INPUT: true; the input reads as it did. -/
def rankLevelsSpec : ChangeSpec := { name := "rankLevels", fn := fun _ => fun
  | [d1, d2] => { results := [.lit (.bool true)], args := [d1, d2] }
  | _ => none }
def rankLevelsRow : OpenClaim := { program := "yteommjbbjdbhkaa", sum := "81e2d8180499ece5871f485b55edb54fda52a08966a162e757cb94507ffcd872", func := "tierce/tiercelaw16.RankLevels", spec := "rankLevels", unfollowed := true, recurses := true, apart := false }
def RankLevelsSaid : Prop := rankLevelsRow.holds Try.pinned (OpenSpec.ofChange rankLevelsSpec)

/-- ITS FALSE NEIGHBOUR: 'it returns false'. Refute it at one input. -/
def rankLevelsWrong : ChangeSpec := { name := "rankLevels", fn := fun _ => fun
  | [d1, d2] => { results := [.lit (.bool false)], args := [d1, d2] }
  | _ => none }
def RankLevelsWrongFalsely : Prop := rankLevelsRow.holds Try.pinned (OpenSpec.ofChange rankLevelsWrong)

/- THE SECOND FORM. 'bulk': how many values and letters a reading holds, each counted each time it is reached (what is shared counts as often as it is met; a slice's spare places count too). A statement '..UptoSaid' is the law's where the arguments, and the package variables that the reading takes, are together of bulk at most 1048576: NARROWER than '..Said'. Prove '..Said' where nothing that the law and all that it calls make is longer than what came in: it says more and counts as full. Else prove '..UptoSaid'. A law counts once. -/
mutual
def uptoBulk {H : Type} : DataW H → Nat
  | .lit (.string bytes) => bytes.length + 1
  | .lit _ => 1
  | .nil => 1
  | .ptr d => uptoBulk d + 1
  | .slice elems spare => uptoBulkAll elems + uptoBulkAll spare + 1
  | .agg parts => uptoBulkAll parts + 1
  | .iface _ d => uptoBulk d + 1
  | .map entries => uptoBulkEntries entries + 1
  | .held _ => 1
def uptoBulkAll {H : Type} : List (DataW H) → Nat
  | [] => 0
  | d :: r => uptoBulk d + uptoBulkAll r
def uptoBulkEntries {H : Type} : List (Lit × DataW H) → Nat
  | [] => 0
  | x :: r => uptoBulkEntry x + uptoBulkEntries r
def uptoBulkEntry {H : Type} : Lit × DataW H → Nat
  | (.string bytes, d) => bytes.length + uptoBulk d + 1
  | (_, d) => uptoBulk d + 1
 end
def uptoSmall : (H : Type) → List (DataW H) → Bool := fun _ ds => decide (uptoBulkAll ds ≤ 1048576)
def OpenSpec.upto (s : _root_.Go.ChangeSpec) : _root_.Go.OpenSpec := { _root_.Go.OpenSpec.ofChange s with cond := some uptoSmall }

/-- 'tiercelaw10.SlotsAgain', WHERE WHAT IT READS IS OF BULK AT MOST 1048576: true; the input reads as it did. -/
def slotsAgainUptoRow : OpenClaim := { program := "yteommjbbjdbhkaa", sum := "81e2d8180499ece5871f485b55edb54fda52a08966a162e757cb94507ffcd872", func := "tierce/tiercelaw10.SlotsAgain", spec := "slotsAgain", apart := false, narrowed := true }
def SlotsAgainUptoSaid : Prop := slotsAgainUptoRow.holds Try.pinned (OpenSpec.upto slotsAgainSpec)

/-- 'tiercelaw10.SlotsExact', WHERE WHAT IT READS IS OF BULK AT MOST 1048576: true; the input reads as it did. -/
def slotsExactUptoRow : OpenClaim := { program := "yteommjbbjdbhkaa", sum := "81e2d8180499ece5871f485b55edb54fda52a08966a162e757cb94507ffcd872", func := "tierce/tiercelaw10.SlotsExact", spec := "slotsExact", apart := false, narrowed := true }
def SlotsExactUptoSaid : Prop := slotsExactUptoRow.holds Try.pinned (OpenSpec.upto slotsExactSpec)

/-- 'tiercelaw10.SlotsKeep', WHERE WHAT IT READS IS OF BULK AT MOST 1048576: true; the input reads as it did. -/
def slotsKeepUptoRow : OpenClaim := { program := "yteommjbbjdbhkaa", sum := "81e2d8180499ece5871f485b55edb54fda52a08966a162e757cb94507ffcd872", func := "tierce/tiercelaw10.SlotsKeep", spec := "slotsKeep", apart := false, narrowed := true }
def SlotsKeepUptoSaid : Prop := slotsKeepUptoRow.holds Try.pinned (OpenSpec.upto slotsKeepSpec)

/-- 'tiercelaw16.RankExact', WHERE WHAT IT READS IS OF BULK AT MOST 1048576: true; the input reads as it did. -/
def rankExactUptoRow : OpenClaim := { program := "yteommjbbjdbhkaa", sum := "81e2d8180499ece5871f485b55edb54fda52a08966a162e757cb94507ffcd872", func := "tierce/tiercelaw16.RankExact", spec := "rankExact", unfollowed := true, recurses := true, apart := false, narrowed := true }
def RankExactUptoSaid : Prop := rankExactUptoRow.holds Try.pinned (OpenSpec.upto rankExactSpec)

/-- 'tiercelaw16.RankPinned', WHERE WHAT IT READS IS OF BULK AT MOST 1048576: true; the input reads as it did. -/
def rankPinnedUptoRow : OpenClaim := { program := "yteommjbbjdbhkaa", sum := "81e2d8180499ece5871f485b55edb54fda52a08966a162e757cb94507ffcd872", func := "tierce/tiercelaw16.RankPinned", spec := "rankPinned", unfollowed := true, recurses := true, apart := false, narrowed := true }
def RankPinnedUptoSaid : Prop := rankPinnedUptoRow.holds Try.pinned (OpenSpec.upto rankPinnedSpec)

/-- 'tiercelaw16.RankLevels', WHERE WHAT IT READS IS OF BULK AT MOST 1048576: true; the input reads as it did. -/
def rankLevelsUptoRow : OpenClaim := { program := "yteommjbbjdbhkaa", sum := "81e2d8180499ece5871f485b55edb54fda52a08966a162e757cb94507ffcd872", func := "tierce/tiercelaw16.RankLevels", spec := "rankLevels", unfollowed := true, recurses := true, apart := false, narrowed := true }
def RankLevelsUptoSaid : Prop := rankLevelsUptoRow.holds Try.pinned (OpenSpec.upto rankLevelsSpec)

end Rows
end Go.Proofs.Yteommjbbjdbhkaa
