import Derived.Test.YtjkndfenniongaaGreatDoorAtR
import Derived.Test.YtjkndfenniongaaGreatDoorRows
import Derived.Test.YtjkndfenniongaaGreatDoorTie
import Derived.Test.YtjkndfenniongaaGreatDoorCards
import Derived.Test.YtjkndfenniongaaGreatDoorOpen
import Derived.WalkKit
import Derived.ProofKit
import Derived.LaidMore
import Derived.OpenShut
import Derived.ShutString
import Derived.ChangeOld
import Derived.Below
import Derived.Stop.Joined
import Derived.Stop.LaidErr
import Derived.SevenTiedAt
import Derived.Lay
import Derived.PinnedBridge
import Derived.Shelf.Vars
set_option linter.unusedVariables false
set_option linter.unusedSimpArgs false
/- Arguments that come in; the wrap of a row with listed variables. -/
namespace Go.Proofs.YtjkndfenniongaaGreatDoor
open Go Go.ChangeShapes Go.WideShapes Go.ChangeAt Go.RowKit Go.Lib
theorem ownT : ownKnob Tryz.prog.godebug = none := by kernel_rfl
theorem laidOutT : laidOutB Tryz.prog = true := by kernel_rfl
abbrev laid2 : List (String × DataW Unit) := Rows.atlasTextRow.laid
theorem lib_of {W : World} (h : laidMetH Tryz.prog laid2 W) (hsh : W.ShapedOpen Tryz.prog) : True := trivial
theorem cells21 : Tryz.prog.cellsOf 21 = 1 := by kernel_rfl
set_option maxRecDepth 10000 in
theorem ints_list {H : Type} {enc : TypeId × Value → H} {w : World} {b0 : Nat} {base : Nat} {spare : Nat → Bool} {held : Bool} {v : Value} {d : DataW H} {p : List MemPlace} (h0 : DataW.Trod enc Tryz.prog w base spare held 39 v d p) (hv0 : Value.okWide Tryz.prog w .any b0 39 v) :
    ∃ a c L, v = .slice a L.length c ∧ L.length ≤ c ∧ c ≤ 9223372036854775807 ∧ Rus w a L ∧ True := by
  obtain ⟨a, l, c, rfl, hl, hm, hi⟩ := ints_open Tryz.underlying39 Tryz.underlying21 cells21 hv0 h0
  unfold maxLen at hm
  have key : ∃ f : Nat → Int, 0 < l → ∃ b o, a = some ⟨b, o, none⟩ ∧ b < w.heap.size ∧ ∀ i, i < l → w.cell? ⟨b, o + i, none⟩ = some (.int .i32 (f i)) := by
    by_cases hp : 0 < l
    · obtain ⟨b, o, ha, hb, hi⟩ := hi hp
      obtain ⟨f, hf⟩ := Go.Deep.choose_lt (n := l) (p := fun i (x : Int) => w.cell? ⟨b, o + i, none⟩ = some (.int .i32 x)) (fun i hil => by
        obtain ⟨z, hz, hw⟩ := hi i hil
        exact ⟨z, hz⟩)
      exact ⟨f, fun _ => ⟨b, o, ha, hb, hf⟩⟩
    · exact ⟨fun _ => 0, fun h => absurd h hp⟩
  obtain ⟨f, hf⟩ := key
  refine ⟨a, c, (List.range l).map f, by simp, by simpa using hl, hm, ?_, trivial⟩
  intro hp
  obtain ⟨b, o, ha, hb, hc⟩ := hf (by simpa using hp)
  refine ⟨b, o, ha, hb, fun i x hx => ?_⟩
  rw [List.getElem?_map] at hx
  obtain ⟨j, hj, rfl⟩ := Option.map_eq_some_iff.1 hx
  obtain ⟨hil, rfl⟩ := List.getElem?_eq_some_iff.1 hj
  simp at hil
  simpa using hc i hil
/-- The wrap with the listed variables and the world's shape. -/
theorem returns_laid_shaped {H : Type} {enc : TypeId × Value → H} {C : Checked} {os : Os} {f : FuncId} {fn : Func} {s : ChangeSpec} {laid : List (String × DataW Unit)}
    (own : ownKnob C.prog.godebug = none) (started : os.Started) (noInit : C.prog.inits.idxOf? f = none) (hfn : C.prog.funcs[f]? = some fn)
    (witness : ∃ (w : World) (tape : Tape) (i : Input), w.os = os ∧ (w.forCall tape i).Shaped C.prog ∧ i.vars = [] ∧ Input.okWide C.prog (w.forCall tape i) .any w.heap.size f i ∧
      ((s.pre enc C.prog fn [] false (w.forCall tape i).memory i.args ∧ laidMetH C.prog laid (w.forCall tape i).memory) ∧ sizedMet enc C.prog fn (OpenSpec.ofChange s) false (w.forCall tape i).memory i.args) ∧ Assume.holds {} C.prog (lone (Frame.enter C.prog f i.args .normal) [] (w.forCall tape i)))
    (contract : ∀ (W : World) (base : Nat) (args : Array Value) (ds gs : List (DataW H)) (before : List MemPlace),
      (∀ (j : Nat) t v, fn.params[j]? = some t → args[j]? = some v → Value.okWide C.prog W .any base t v) →
      DataW.Whole enc C.prog fn.params.toList s.vars false W args.toList ds gs before → laidMetH C.prog laid W → W.ShapedOpen C.prog →
      Calls C.prog f args W fun e W' => ∃ v, e = .returned v ∧ s.post enc C.prog fn false true false false W args v W') :
    ReturnsInHanded {} C os f .any (fun w args => (s.pre enc C.prog fn [] false w args ∧ laidMetH C.prog laid w) ∧ sizedMet enc C.prog fn (OpenSpec.ofChange s) false w args) (s.post enc C.prog fn false true false false) := by
  refine returnsInHanded_of_calls own started noInit witness fun w tape i _ hsh _ hok hpre hholds => ?_
  obtain ⟨_, _, _, fn', hfn', _, _, _, _, hval⟩ := hok
  obtain rfl : fn' = fn := Option.some.inj (hfn'.symm.trans hfn)
  obtain ⟨⟨⟨ds, gs, before, hw, _⟩, hl⟩, _⟩ := hpre
  have hw' := DataW.Whole.of_heap (w' := w.forCall tape i) (by rfl) hw
  refine (contract (w.forCall tape i) w.heap.size i.args ds gs before hval hw' (hl.of_heap (by rfl)) hsh).mono fun e W' ⟨v, he, hp⟩ => ?_
  subst he
  exact ChangeSpec.post_blind hp
end Go.Proofs.YtjkndfenniongaaGreatDoor
