import Derived.Test.YtjkndfenniongaaGreatDoorChecked
import Derived.WalkKit
import Derived.OpenShut
import Derived.WideShapes
import Derived.ChangeSame
import Derived.Lib.SmallJoins
import Derived.Deep.Slices
import Derived.Test.YtjkndfenniongaaGreatDoorAtR
import Derived.Test.YtjkndfenniongaaGreatDoorRows
import Derived.Test.YtjkndfenniongaaGreatDoorTie
import Derived.Test.YtjkndfenniongaaGreatDoorCards
import Derived.ProofKit
import Derived.LaidMore
import Derived.ShutString
import Derived.ChangeOld
import Derived.Below
import Derived.Stop.Joined
import Derived.Stop.LaidErr
import Derived.SevenTiedAt
import Derived.Lay
import Derived.PinnedBridge
import Derived.Shelf.Vars
set_option linter.unusedVariables false
set_option linter.unusedSimpArgs false
/- Opening arguments that came in: integers, bools, strings, structs, slices. Over whatever program. -/
namespace Go.Proofs.YtjkndfenniongaaGreatDoor
open Go Go.RowKit Go.ChangeShapes Go.WideShapes Go.Deep
section
variable {H : Type} {enc : TypeId × Value → H} {P : Program} {w : World} {base b0 : Nat} {spare : Nat → Bool} {held : Bool}
theorem int_of_trod {t : TypeId} {k : IntKind} {n : Nat} {cs : List Value} {x : DataW H × List MemPlace} (ht : P.underlying t = some (.int k)) (h : DataW.trod enc P w base spare held n t cs = some x) :
    ∃ z, cs = [.int k z] ∧ (Lit.int k z).wf = true := by
  obtain ⟨z, hz, _, hw⟩ := DataW.trod_int ht h; exact ⟨z, hz, hw⟩
theorem bool_of_trod {t : TypeId} {n : Nat} {cs : List Value} {x : DataW H × List MemPlace} (ht : P.underlying t = some .bool) (h : DataW.trod enc P w base spare held n t cs = some x) :
    ∃ z, cs = [.bool z] := by
  obtain ⟨z, hz, _⟩ := DataW.trod_bool ht h; exact ⟨z, hz⟩
theorem string_of_trod {t : TypeId} {n : Nat} {cs : List Value} {x : DataW H × List MemPlace} (ht : P.underlying t = some .string) (h : DataW.trod enc P w base spare held n t cs = some x) :
    ∃ z : ByteArray, cs = [.string z] ∧ z.size ≤ maxLen := by
  obtain ⟨z, hz, _, hl⟩ := DataW.trod_string ht h; exact ⟨z, hz, hl⟩
theorem fields_of_trod {t : TypeId} {fs : Array Field} {n : Nat} {cs : List Value} {x : DataW H × List MemPlace} (ht : P.underlying t = some (.struct fs)) (h : DataW.trod enc P w base spare held n t cs = some x) :
    ∃ m, cs.length = P.cellsOf t ∧ ∀ (i : Nat) (f : Field), fs[i]? = some f → ∃ y, DataW.trod enc P w base spare held m f.type ((cs.drop f.offset).take (P.cellsOf f.type)) = some y := by
  obtain ⟨xs, m, _, _, hl, hxl, hf⟩ := DataW.trod_struct ht h
  refine ⟨m, hl, fun i f hi => ?_⟩
  have : i < xs.length := by rw [hxl]; exact (Array.getElem?_eq_some_iff.1 hi).1
  exact ⟨xs[i], (hf i f hi).trans (List.getElem?_eq_getElem this)⟩
theorem slice_of_trod {t e : TypeId} {n c : Nat} {cs : List Value} {x : DataW H × List MemPlace} (ht : P.underlying t = some (.slice e)) (hC : P.cellsOf e = c) (hc : 0 < c) (h : DataW.trod enc P w base spare held n t cs = some x) :
    ∃ (a : Option Addr) (len cap : Nat), cs = [.slice a len cap] ∧ len ≤ cap ∧ cap ≤ maxLen ∧ (0 < len → ∃ b o, a = some ⟨b, o, none⟩ ∧ b < w.heap.size ∧
      ∀ i, i < len → ∃ (m : Nat) (ds : List Value) (y : DataW H × List MemPlace), ds.length = c ∧ (∀ j, j < c → w.cell? ⟨b, o + i * c + j, none⟩ = ds[j]?) ∧ DataW.trod enc P w base spare held m e ds = some y) := by
  rcases open_slice ht h with ⟨h0, _⟩ | ⟨a, len, cap, m, k, D, Pl, hcs, _, hl, hm, hmm, _, hi⟩
  · exact ⟨none, 0, 0, h0, Nat.le_refl _, Nat.zero_le _, fun h => absurd h (by omega)⟩
  · refine ⟨some a, len, cap, hcs, hl, hm, fun hp => ?_⟩
    have hlm : len ≤ m := by rw [hmm]; split <;> omega
    have cellAt : ∀ i, i < m → ∃ ds, ds.length = c ∧ (∀ j, j < c → w.cell? ((a.add (i * c)).add j) = ds[j]?) ∧ DataW.trod enc P w base spare held k e ds = some (D i, Pl i) := by
      intro i him
      obtain ⟨ds, h1, h2⟩ := hi i him
      rw [hC] at h1
      obtain ⟨_, h3, h4⟩ := World.cells?_some h1
      exact ⟨ds, h3, h4, h2⟩
    obtain ⟨b, o, s⟩ := a
    obtain ⟨ds, hd, h0, _⟩ := cellAt 0 (by omega)
    have h00 := h0 0 hc
    rw [Nat.zero_mul] at h00
    have e0 : (Addr.add (Addr.add ⟨b, o, s⟩ 0) 0) = ⟨b, o, s⟩ := rfl
    rw [e0, List.getElem?_eq_getElem (by omega)] at h00
    have hs : s = none := by
      cases s with
      | none => rfl
      | some q => exfalso; unfold World.cell? at h00; split at h00 <;> simp at h00
    subst hs
    have hb : b < w.heap.size := by
      rcases Nat.lt_or_ge b w.heap.size with h' | h'
      · exact h'
      · exfalso; unfold World.cell? at h00; rw [Array.getElem?_eq_none h'] at h00; simp at h00
    refine ⟨b, o, rfl, hb, fun i hil => ?_⟩
    obtain ⟨ds, hd, h1, h2⟩ := cellAt i (by omega)
    refine ⟨k, ds, _, hd, fun j hj => ?_, h2⟩
    rw [← h1 j hj]
    congr 1
    unfold Addr.add
    split <;> split <;> simp_all [Nat.add_assoc]
theorem int_open {t : TypeId} {k : IntKind} {v : Value} {d : DataW H} {p : List MemPlace} (ht : P.underlying t = some (.int k)) (hv : Value.okWide P w .any b0 t v) (h : DataW.Trod enc P w base spare held t v d p) :
    ∃ z, v = .int k z ∧ (Lit.int k z).wf = true := by
  obtain ⟨m, rfl⟩ := okWide_int ht hv
  obtain ⟨n, h⟩ := h
  obtain ⟨z, hz, hw⟩ := int_of_trod ht h
  simp [Value.cells] at hz
  subst hz
  exact ⟨_, rfl, hw⟩
theorem slice_opens {t e : TypeId} {c : Nat} {v : Value} {d : DataW H} {p : List MemPlace} (ht : P.underlying t = some (.slice e)) (hC : P.cellsOf e = c) (hc : 0 < c) (hv : Value.okWide P w .any b0 t v) (h : DataW.Trod enc P w base spare held t v d p) :
    ∃ (a : Option Addr) (len cap : Nat), v = .slice a len cap ∧ len ≤ cap ∧ cap ≤ maxLen ∧ (0 < len → ∃ b o, a = some ⟨b, o, none⟩ ∧ b < w.heap.size ∧
      ∀ i, i < len → ∃ (m : Nat) (ds : List Value) (y : DataW H × List MemPlace), ds.length = c ∧ (∀ j, j < c → w.cell? ⟨b, o + i * c + j, none⟩ = ds[j]?) ∧ DataW.trod enc P w base spare held m e ds = some y) := by
  obtain ⟨a, len, cap, rfl⟩ := okWide_slice ht hv
  obtain ⟨n, h⟩ := h
  obtain ⟨a', len', cap', e, h1, h2, h3⟩ := slice_of_trod ht hC hc h
  simp only [Value.cells, List.cons.injEq, and_true, Value.slice.injEq] at e
  obtain ⟨rfl, rfl, rfl⟩ := e
  exact ⟨a, len, cap, rfl, h1, h2, h3⟩
/-- A slice of integers: a list's values. -/
theorem ints_open {t e : TypeId} {k : IntKind} {v : Value} {d : DataW H} {p : List MemPlace} (ht : P.underlying t = some (.slice e)) (he : P.underlying e = some (.int k)) (hC : P.cellsOf e = 1) (hv : Value.okWide P w .any b0 t v) (h : DataW.Trod enc P w base spare held t v d p) :
    ∃ (a : Option Addr) (len cap : Nat), v = .slice a len cap ∧ len ≤ cap ∧ cap ≤ maxLen ∧ (0 < len → ∃ b o, a = some ⟨b, o, none⟩ ∧ b < w.heap.size ∧
      ∀ i, i < len → ∃ z, w.cell? ⟨b, o + i, none⟩ = some (.int k z) ∧ (Lit.int k z).wf = true) := by
  obtain ⟨a, len, cap, rfl, h1, h2, h3⟩ := slice_opens ht hC (by omega) hv h
  refine ⟨a, len, cap, rfl, h1, h2, fun hp => ?_⟩
  obtain ⟨b, o, ha, hb, hi⟩ := h3 hp
  refine ⟨b, o, ha, hb, fun i hil => ?_⟩
  obtain ⟨m, ds, y, hd, hc, ht⟩ := hi i hil
  obtain ⟨z, rfl, hw⟩ := int_of_trod he ht
  exact ⟨z, by have := hc 0 (by omega); simpa using this, hw⟩
theorem bools_open {t e : TypeId} {v : Value} {d : DataW H} {p : List MemPlace} (ht : P.underlying t = some (.slice e)) (he : P.underlying e = some .bool) (hC : P.cellsOf e = 1) (hv : Value.okWide P w .any b0 t v) (h : DataW.Trod enc P w base spare held t v d p) :
    ∃ (a : Option Addr) (len cap : Nat), v = .slice a len cap ∧ len ≤ cap ∧ cap ≤ maxLen ∧ (0 < len → ∃ b o, a = some ⟨b, o, none⟩ ∧ b < w.heap.size ∧
      ∀ i, i < len → ∃ z, w.cell? ⟨b, o + i, none⟩ = some (.bool z)) := by
  obtain ⟨a, len, cap, rfl, h1, h2, h3⟩ := slice_opens ht hC (by omega) hv h
  refine ⟨a, len, cap, rfl, h1, h2, fun hp => ?_⟩
  obtain ⟨b, o, ha, hb, hi⟩ := h3 hp
  refine ⟨b, o, ha, hb, fun i hil => ?_⟩
  obtain ⟨m, ds, y, hd, hc, ht⟩ := hi i hil
  obtain ⟨z, rfl⟩ := bool_of_trod he ht
  exact ⟨z, by have := hc 0 (by omega); simpa using this⟩
end
end Go.Proofs.YtjkndfenniongaaGreatDoor
/- Arguments that come in; the wrap of a row with listed variables. -/
namespace Go.Proofs.YtjkndfenniongaaGreatDoor
open Go Go.ChangeShapes Go.WideShapes Go.ChangeAt Go.RowKit Go.Lib
theorem ownT : ownKnob Tryz.prog.godebug = none := by kernel_rfl
theorem laidOutT : laidOutB Tryz.prog = true := by kernel_rfl
abbrev laid2 : List (String × DataW Unit) := Rows.atlasTextRow.laid
theorem lib_of {W : World} (h : laidMetH Tryz.prog laid2 W) (hsh : W.ShapedOpen Tryz.prog) : True := trivial
theorem cells21 : Tryz.prog.cellsOf 21 = 1 := by kernel_rfl
set_option maxRecDepth 10000 in
theorem ints_list {H : Type} {enc : TypeId × Value → H} {w : World} {b0 : Nat} {base : Nat} {spare : Nat → Bool} {held : Bool} {v : Value} {d : DataW H} {p : List MemPlace} (h0 : DataW.Trod enc Tryz.prog w base spare held 39 v d p) (hv0 : Value.okWide Tryz.prog w .any b0 39 v) :
    ∃ a c L, v = .slice a L.length c ∧ L.length ≤ c ∧ c ≤ 9223372036854775807 ∧ Rus w a L ∧ True := by
  obtain ⟨a, l, c, rfl, hl, hm, hi⟩ := ints_open Tryz.underlying39 Tryz.underlying21 cells21 hv0 h0
  unfold maxLen at hm
  have key : ∃ f : Nat → Int, 0 < l → ∃ b o, a = some ⟨b, o, none⟩ ∧ b < w.heap.size ∧ ∀ i, i < l → w.cell? ⟨b, o + i, none⟩ = some (.int .i32 (f i)) := by
    by_cases hp : 0 < l
    · obtain ⟨b, o, ha, hb, hi⟩ := hi hp
      obtain ⟨f, hf⟩ := Go.Deep.choose_lt (n := l) (p := fun i (x : Int) => w.cell? ⟨b, o + i, none⟩ = some (.int .i32 x)) (fun i hil => by
        obtain ⟨z, hz, hw⟩ := hi i hil
        exact ⟨z, hz⟩)
      exact ⟨f, fun _ => ⟨b, o, ha, hb, hf⟩⟩
    · exact ⟨fun _ => 0, fun h => absurd h hp⟩
  obtain ⟨f, hf⟩ := key
  refine ⟨a, c, (List.range l).map f, by simp, by simpa using hl, hm, ?_, trivial⟩
  intro hp
  obtain ⟨b, o, ha, hb, hc⟩ := hf (by simpa using hp)
  refine ⟨b, o, ha, hb, fun i x hx => ?_⟩
  rw [List.getElem?_map] at hx
  obtain ⟨j, hj, rfl⟩ := Option.map_eq_some_iff.1 hx
  obtain ⟨hil, rfl⟩ := List.getElem?_eq_some_iff.1 hj
  simp at hil
  simpa using hc i hil
/-- The wrap with the listed variables and the world's shape. -/
theorem returns_laid_shaped {H : Type} {enc : TypeId × Value → H} {C : Checked} {os : Os} {f : FuncId} {fn : Func} {s : ChangeSpec} {laid : List (String × DataW Unit)}
    (own : ownKnob C.prog.godebug = none) (started : os.Started) (noInit : C.prog.inits.idxOf? f = none) (hfn : C.prog.funcs[f]? = some fn)
    (witness : ∃ (w : World) (tape : Tape) (i : Input), w.os = os ∧ (w.forCall tape i).Shaped C.prog ∧ i.vars = [] ∧ Input.okWide C.prog (w.forCall tape i) .any w.heap.size f i ∧
      ((s.pre enc C.prog fn [] false (w.forCall tape i).memory i.args ∧ laidMetH C.prog laid (w.forCall tape i).memory) ∧ sizedMet enc C.prog fn (OpenSpec.ofChange s) false (w.forCall tape i).memory i.args) ∧ Assume.holds {} C.prog (lone (Frame.enter C.prog f i.args .normal) [] (w.forCall tape i)))
    (contract : ∀ (W : World) (base : Nat) (args : Array Value) (ds gs : List (DataW H)) (before : List MemPlace),
      (∀ (j : Nat) t v, fn.params[j]? = some t → args[j]? = some v → Value.okWide C.prog W .any base t v) →
      DataW.Whole enc C.prog fn.params.toList s.vars false W args.toList ds gs before → laidMetH C.prog laid W → W.ShapedOpen C.prog →
      Calls C.prog f args W fun e W' => ∃ v, e = .returned v ∧ s.post enc C.prog fn false true false false W args v W') :
    ReturnsInHanded {} C os f .any (fun w args => (s.pre enc C.prog fn [] false w args ∧ laidMetH C.prog laid w) ∧ sizedMet enc C.prog fn (OpenSpec.ofChange s) false w args) (s.post enc C.prog fn false true false false) := by
  refine returnsInHanded_of_calls own started noInit witness fun w tape i _ hsh _ hok hpre hholds => ?_
  obtain ⟨_, _, _, fn', hfn', _, _, _, _, hval⟩ := hok
  obtain rfl : fn' = fn := Option.some.inj (hfn'.symm.trans hfn)
  obtain ⟨⟨⟨ds, gs, before, hw, _⟩, hl⟩, _⟩ := hpre
  have hw' := DataW.Whole.of_heap (w' := w.forCall tape i) (by rfl) hw
  refine (contract (w.forCall tape i) w.heap.size i.args ds gs before hval hw' (hl.of_heap (by rfl)) hsh).mono fun e W' ⟨v, he, hp⟩ => ?_
  subst he
  exact ChangeSpec.post_blind hp
end Go.Proofs.YtjkndfenniongaaGreatDoor
/- A string that comes in. -/
namespace Go.Proofs.YtjkndfenniongaaGreatDoor
open Go Go.ChangeShapes Go.WideShapes Go.ChangeAt Go.RowKit Go.Lib
theorem string_open {P : Program} {base : Nat} {W : World} {t : TypeId} {v : Value} (ht : P.underlying t = some .string) (hv : Value.okWide P W .any base t v) : ∃ l : List UInt8, v = .string ⟨l.toArray⟩ := by
  obtain ⟨s, rfl⟩ := okWide_string ht hv
  exact ⟨s.data.toList, rfl⟩
end Go.Proofs.YtjkndfenniongaaGreatDoor
