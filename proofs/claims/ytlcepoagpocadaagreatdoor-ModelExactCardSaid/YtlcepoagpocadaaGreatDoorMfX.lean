import Derived.Test.YtlcepoagpocadaaGreatDoorMfD
import Derived.Test.YtlcepoagpocadaaGreatDoorOpen
import Derived.Test.YtlcepoagpocadaaGreatDoorRows
import Derived.Test.YtlcepoagpocadaaGreatDoorTie
import Derived.Test.YtlcepoagpocadaaGreatDoorCards
import Derived.WalkKit
import Derived.ProofKit
import Derived.LaidMore
import Derived.OpenShut
import Derived.ShutString
import Derived.ChangeOld
import Derived.Below
import Derived.Stop.Joined
import Derived.Stop.LaidErr
import Derived.SevenTiedAt
import Derived.Lay
import Derived.PinnedBridge
import Derived.Lib.LaidU8T
import Derived.Shelf.Vars
set_option linter.unusedVariables false
set_option linter.unusedSimpArgs false
/- Arguments that come in; the wrap of a row with listed variables. -/
namespace Go.Proofs.YtlcepoagpocadaaGreatDoor
open Go Go.ChangeShapes Go.WideShapes Go.ChangeAt Go.RowKit Go.Lib
theorem ownT : ownKnob Tryz.prog.godebug = none := by kernel_rfl
theorem laidOutT : laidOutB Tryz.prog = true := by kernel_rfl
abbrev laid7 : List (String × DataW Unit) := Rows.modelSnapsRow.laid
theorem tab167 : (Tryz.prog.globals[1]?).map (·.type) = some 268 := by kernel_rfl
theorem glob2 : (Tryz.prog.globals[4]?).map (·.type) = some 113 := by kernel_rfl
theorem glob3 : (Tryz.prog.globals[5]?).map (·.type) = some 113 := by kernel_rfl
theorem string_open {P : Program} {base : Nat} {W : World} {t : TypeId} {v : Value} (ht : P.underlying t = some .string) (hv : Value.okWide P W .any base t v) : ∃ l : List UInt8, v = .string ⟨l.toArray⟩ := by
  obtain ⟨s, rfl⟩ := okWide_string ht hv
  exact ⟨s.data.toList, rfl⟩
theorem i64_wf {z : Int} (h : (Lit.int .i64 z).wf = true) : I64 z := h
theorem u8_nat {z : Int} (h : (Lit.int .u8 z).wf = true) : ∃ b : Nat, b < 256 ∧ z = (b : Int) := by
  simp [Lit.wf, IntKind.min, IntKind.max, IntKind.signed, IntKind.bits] at h
  exact ⟨z.toNat, by omega, by omega⟩
theorem iface_read {W : World} {n nm : String} {d : DataW Unit} {g : Nat} {ms : Array (String × TypeId)} (h : VarReads Tryz.prog W n (.iface nm d)) (hg : Tryz.prog.globalNamed n = some g) (ht : (Tryz.prog.globals[g]?).map (·.type) = some 113) (hi : Tryz.prog.underlying 113 = some (.interface ms)) :
    ∃ tp p, W.var? Tryz.prog n = some #[.iface tp p] := by
  obtain ⟨g0, t0, cs, fuel, p, hg0, hty, hvar, hd⟩ := h
  obtain rfl := Option.some.inj (hg.symm.trans hg0)
  obtain rfl := Option.some.inj (ht.symm.trans hty)
  obtain ⟨f1, u, v, hc, _⟩ := iface_of_trod hi hd
  obtain ⟨l⟩ := cs
  dsimp only at hc
  subst hc
  exact ⟨u, v, hvar⟩
theorem u8extra : U8Extra Tryz.prog Tryz.lays196_ren := ⟨by kernel_rfl, by kernel_rfl, by kernel_rfl, by kernel_rfl, by kernel_rfl, by kernel_rfl, by kernel_rfl⟩
set_option maxRecDepth 100000 in
theorem lib_of {W : World} (h : laidMetH Tryz.prog laid7 W) (hsh : W.ShapedOpen Tryz.prog) : LibOK W := by
  rw [MakeChecks.laidMetH_plain _ _ _ (by kernel_rfl)] at h
  refine ⟨⟨?_, ?_, ?_⟩, ?_, ?_⟩
  · exact Lib.tabIs_of_head tabG tab167 Tryz.underlying268 Tryz.underlying243 (by kernel_rfl) (by kernel_rfl) h.tail.tail
  · exact iface_read (Lib.laidMet.reads h.tail.tail.tail.tail.tail (List.mem_cons_self)) synG glob2 Tryz.underlying113
  · exact iface_read (Lib.laidMet.reads h.tail.tail.tail.tail (List.mem_cons_self)) rngG glob3 Tryz.underlying113
  · refine utf8Tabs_of_readsT (U8Types.of196 Tryz.lays196) u8extra ?_ ?_
    · have := Lib.laidMet.reads h.tail.tail.tail.tail.tail.tail (n := "unicode/utf8.first") (d := Rows.laid_unicode_utf8_first) (List.mem_cons_self)
      rw [show Rows.laid_unicode_utf8_first = firstData from Pinned.utf8First_eq] at this
      exact this
    · have := Lib.laidMet.reads h.tail.tail.tail (n := "unicode/utf8.acceptRanges") (d := Rows.laid_unicode_utf8_acceptRanges) (List.mem_cons_self)
      rw [show Rows.laid_unicode_utf8_acceptRanges = acceptData by kernel_rfl] at this
      exact this
  · exact cell_of_shapedOpen_int (t := 3) (zero := #[.int .i64 0]) hsh (of_decide_eq_true (by kernel_rfl)) (by kernel_rfl) rfl (by kernel_rfl) (by kernel_rfl) Tryz.underlying3
theorem strings_open {H : Type} {enc : TypeId × Value → H} {P : Program} {w : World} {base b0 : Nat} {spare : Nat → Bool} {held : Bool} {t e : TypeId} {v : Value} {d : DataW H} {p : List MemPlace} (ht : P.underlying t = some (.slice e)) (he : P.underlying e = some .string) (hC : P.cellsOf e = 1) (hv : Value.okWide P w .any b0 t v) (h : DataW.Trod enc P w base spare held t v d p) :
    ∃ (l : List (List UInt8)) (a : Option Addr) (n c : Nat), v = .slice a n c ∧ l.length = n ∧ RowAt w a (l.map strV) := by
  obtain ⟨a, len, cap, rfl, h1, h2, h3⟩ := slice_opens ht hC (by omega) hv h
  by_cases hl : 0 < len
  · obtain ⟨b, o, rfl, hb, hi⟩ := h3 hl
    have hs : ∀ i, i < len → ∃ l : List UInt8, w.cell? ⟨b, o + i, none⟩ = some (strV l) := by
      intro i hil
      obtain ⟨m, ds, y, hd, hc, ht2⟩ := hi i hil
      obtain ⟨s, rfl, _⟩ := string_of_trod he ht2
      exact ⟨s.data.toList, by have := hc 0 (by omega); rw [Nat.mul_one, Nat.add_zero] at this; exact this⟩
    refine ⟨(List.range len).map fun i => if hi : i < len then Classical.choose (hs i hi) else [], _, len, cap, rfl, by simp, fun _ => ⟨b, o, rfl, hb, fun i u hu => ?_⟩⟩
    rw [List.getElem?_map, List.getElem?_map] at hu
    by_cases hil : i < len
    · rw [List.getElem?_range hil] at hu
      simp only [Option.map_some, Option.some.injEq, dif_pos hil] at hu
      rw [← hu]
      exact Classical.choose_spec (hs i hil)
    · rw [List.getElem?_eq_none (by rw [List.length_range]; omega)] at hu
      cases hu
  · obtain rfl : len = 0 := by omega
    exact ⟨[], a, 0, cap, rfl, rfl, fun q => by simp at q⟩
/-- The wrap with the listed variables and the world's shape. -/
theorem returns_laid_shaped {H : Type} {enc : TypeId × Value → H} {C : Checked} {os : Os} {f : FuncId} {fn : Func} {s : ChangeSpec} {laid : List (String × DataW Unit)}
    (own : ownKnob C.prog.godebug = none) (started : os.Started) (noInit : C.prog.inits.idxOf? f = none) (hfn : C.prog.funcs[f]? = some fn)
    (witness : ∃ (w : World) (tape : Tape) (i : Input), w.os = os ∧ (w.forCall tape i).Shaped C.prog ∧ i.vars = [] ∧ Input.okWide C.prog (w.forCall tape i) .any w.heap.size f i ∧
      ((s.pre enc C.prog fn [] false (w.forCall tape i).memory i.args ∧ laidMetH C.prog laid (w.forCall tape i).memory) ∧ sizedMet enc C.prog fn (OpenSpec.ofChange s) false (w.forCall tape i).memory i.args) ∧ Assume.holds {} C.prog (lone (Frame.enter C.prog f i.args .normal) [] (w.forCall tape i)))
    (contract : ∀ (W : World) (base : Nat) (args : Array Value) (ds gs : List (DataW H)) (before : List MemPlace),
      (∀ (j : Nat) t v, fn.params[j]? = some t → args[j]? = some v → Value.okWide C.prog W .any base t v) →
      DataW.Whole enc C.prog fn.params.toList s.vars false W args.toList ds gs before → laidMetH C.prog laid W → W.ShapedOpen C.prog →
      Calls C.prog f args W fun e W' => ∃ v, e = .returned v ∧ s.post enc C.prog fn false true false false W args v W') :
    ReturnsInHanded {} C os f .any (fun w args => (s.pre enc C.prog fn [] false w args ∧ laidMetH C.prog laid w) ∧ sizedMet enc C.prog fn (OpenSpec.ofChange s) false w args) (s.post enc C.prog fn false true false false) := by
  refine returnsInHanded_of_calls own started noInit witness fun w tape i _ hsh _ hok hpre hholds => ?_
  obtain ⟨_, _, _, fn', hfn', _, _, _, _, hval⟩ := hok
  obtain rfl : fn' = fn := Option.some.inj (hfn'.symm.trans hfn)
  obtain ⟨⟨⟨ds, gs, before, hw, _⟩, hl⟩, _⟩ := hpre
  have hw' := DataW.Whole.of_heap (w' := w.forCall tape i) (by rfl) hw
  refine (contract (w.forCall tape i) w.heap.size i.args ds gs before hval hw' (hl.of_heap (by rfl)) hsh).mono fun e W' ⟨v, he, hp⟩ => ?_
  subst he
  exact ChangeSpec.post_blind hp
end Go.Proofs.YtlcepoagpocadaaGreatDoor
