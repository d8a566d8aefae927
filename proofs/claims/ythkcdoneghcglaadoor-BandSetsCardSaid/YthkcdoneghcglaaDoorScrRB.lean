import Derived.Test.YthkcdoneghcglaaDoorScrL
import Derived.Test.YthkcdoneghcglaaDoorRows
import Derived.Test.YthkcdoneghcglaaDoorTie
import Derived.Test.YthkcdoneghcglaaDoorCards
import Derived.Test.YthkcdoneghcglaaDoorOpen
import Derived.WalkKit
import Derived.ProofKit
import Derived.LaidMore
import Derived.OpenShut
import Derived.ShutString
import Derived.ChangeOld
import Derived.Below
import Derived.Stop.Joined
import Derived.Stop.LaidErr
import Derived.SevenTiedAt
import Derived.Lay
import Derived.PinnedBridge
import Derived.Lib.LaidU8T
import Derived.Shelf.Vars
set_option linter.unusedVariables false
set_option linter.unusedSimpArgs false
namespace Go.Proofs.YthkcdoneghcglaaDoor
open Go Go.ChangeShapes Go.WideShapes Go.ChangeAt Go.RowKit Go.Lib
theorem ownT : ownKnob Tryd.prog.godebug = none := by kernel_rfl
theorem laidOutT : laidOutB Tryd.prog = true := by kernel_rfl
abbrev laid7 : List (String × DataW Unit) := Rows.scrubExactRow.laid
theorem tab146 : (Tryd.prog.globals[1]?).map (·.type) = some 146 := by kernel_rfl
theorem glob2 : (Tryd.prog.globals[2]?).map (·.type) = some 76 := by kernel_rfl
theorem glob3 : (Tryd.prog.globals[3]?).map (·.type) = some 76 := by kernel_rfl
theorem str_open {P : Program} {base : Nat} {W : World} {t : TypeId} {v : Value} {H : Type} {enc : TypeId × Value → H} {bs : Nat} {spare : Nat → Bool} {held : Bool} {d : DataW H} {p : List MemPlace} (ht : P.underlying t = some .string) (hv : Value.okWide P W .any base t v) (h : DataW.Trod enc P W bs spare held t v d p) : ∃ l : List UInt8, v = .string ⟨l.toArray⟩ ∧ l.length ≤ 9223372036854775807 := by
  obtain ⟨s, rfl⟩ := okWide_string ht hv
  obtain ⟨n, h⟩ := h
  obtain ⟨z, hz, hl⟩ := string_of_trod ht h
  simp [Value.cells] at hz
  subst hz
  unfold maxLen at hl
  exact ⟨s.data.toList, rfl, by have : s.data.toList.length = s.size := rfl; omega⟩
theorem string_open {P : Program} {base : Nat} {W : World} {t : TypeId} {v : Value} (ht : P.underlying t = some .string) (hv : Value.okWide P W .any base t v) : ∃ l : List UInt8, v = .string ⟨l.toArray⟩ := by
  obtain ⟨s, rfl⟩ := okWide_string ht hv
  exact ⟨s.data.toList, rfl⟩
theorem i64_wf {z : Int} (h : (Lit.int .i64 z).wf = true) : I64 z := by
  simp [Lit.wf, IntKind.min, IntKind.max, IntKind.signed, IntKind.bits] at h
  unfold I64; omega
theorem iface_read {W : World} {n nm : String} {d : DataW Unit} {g : Nat} {ms : Array (String × TypeId)} (h : VarReads Tryd.prog W n (.iface nm d)) (hg : Tryd.prog.globalNamed n = some g) (ht : (Tryd.prog.globals[g]?).map (·.type) = some 76) (hi : Tryd.prog.underlying 76 = some (.interface ms)) :
    ∃ tp p, W.var? Tryd.prog n = some #[.iface tp p] := by
  obtain ⟨g0, t0, cs, fuel, p, hg0, hty, hvar, hd⟩ := h
  obtain rfl := Option.some.inj (hg.symm.trans hg0)
  obtain rfl := Option.some.inj (ht.symm.trans hty)
  obtain ⟨f1, u, v, hc, _⟩ := iface_of_trod hi hd
  obtain ⟨l⟩ := cs
  dsimp only at hc
  subst hc
  exact ⟨u, v, hvar⟩
set_option maxRecDepth 100000 in
theorem lib_of {W : World} (h : laidMetH Tryd.prog laid7 W) (hsh : W.ShapedOpen Tryd.prog) : LibOK W := by
  rw [MakeChecks.laidMetH_plain _ _ _ (by kernel_rfl)] at h
  refine ⟨?_, ?_, ?_, ?_⟩
  · exact Lib.tabIs_of_head tabG tab146 Tryd.underlying146 Tryd.underlying101 (by kernel_rfl) (by kernel_rfl) h.tail.tail
  · exact iface_read (Lib.laidMet.reads h.tail.tail.tail.tail.tail (List.mem_cons_self)) synG glob2 Tryd.underlying76
  · exact iface_read (Lib.laidMet.reads h.tail.tail.tail.tail (List.mem_cons_self)) rngG glob3 Tryd.underlying76
  · exact cell_of_shapedOpen_int (t := 3) (zero := #[.int .i64 0]) hsh (of_decide_eq_true (by kernel_rfl)) (by kernel_rfl) rfl (by kernel_rfl) (by kernel_rfl) Tryd.underlying3
instance : Inhabited Sm := ⟨sm0⟩
theorem cells46 : Tryd.prog.cellsOf 46 = 4 := by kernel_rfl
theorem cells43 : Tryd.prog.cellsOf 43 = 2 := by kernel_rfl
theorem cells3r : Tryd.prog.cellsOf 3 = 1 := by kernel_rfl
theorem cells44 : Tryd.prog.cellsOf 44 = 1 := by kernel_rfl
theorem u32_bd {z : Int} (h : (Lit.int .u32 z).wf = true) : 0 ≤ z ∧ z < 4294967296 := by
  simp [Lit.wf, IntKind.min, IntKind.max, IntKind.signed, IntKind.bits] at h; omega
set_option maxRecDepth 100000 in
theorem sums_open {H : Type} {enc : TypeId × Value → H} {w : World} {b0 : Nat} {base : Nat} {spare : Nat → Bool} {held : Bool} {v : Value} {d : DataW H} {p : List MemPlace} (h0 : DataW.Trod enc Tryd.prog w base spare held 22 v d p) (hv0 : Value.okWide Tryd.prog w .any b0 22 v) :
    ∃ a c L, v = .slice a L.length c ∧ L.length ≤ c ∧ c ≤ 9223372036854775807 ∧ Sms w a L ∧ ∀ x ∈ L, x.h < 4294967296 := by
  obtain ⟨a, l, c, rfl, hl, hm, hi⟩ := slice_opens Tryd.underlying22 cells46 (by omega) hv0 h0
  unfold maxLen at hm
  have key : ∃ f : Nat → Sm, 0 < l → ∃ b o, a = some ⟨b, o, none⟩ ∧ b < w.heap.size ∧ ∀ i, i < l → Cell4 w b (o + i * 4) (f i) ∧ (f i).h < 4294967296 := by
    by_cases hp : 0 < l
    · obtain ⟨b, o, ha, hb, hi⟩ := hi hp
      obtain ⟨f, hf⟩ := Go.Deep.choose_lt (n := l) (p := fun i (x : Sm) => Cell4 w b (o + i * 4) x ∧ x.h < 4294967296) (fun i hil => by
        obtain ⟨m, ds, y, hd, hc, ht⟩ := hi i hil
        obtain ⟨m', _, hf⟩ := fields_of_trod Tryd.underlying46 ht
        clear ht
        match ds, hd with
        | [a0, a1, a2, a3], _ =>
          have c0 := hc 0 (by omega)
          have c1 := hc 1 (by omega)
          have c2 := hc 2 (by omega)
          have c3 := hc 3 (by omega)
          simp only [List.getElem?_cons_zero, List.getElem?_cons_succ, Nat.add_zero] at c0 c1 c2 c3
          clear hc
          obtain ⟨y0, h0⟩ := hf 0 _ rfl
          obtain ⟨y1, h1⟩ := hf 1 _ rfl
          obtain ⟨y2, h2⟩ := hf 2 _ rfl
          obtain ⟨z0, g0, _⟩ := int_of_trod Tryd.underlying3 (cs := [a0]) (by rw [show [a0] = ([a0, a1, a2, a3].drop 0).take (Tryd.prog.cellsOf 3) by rw [cells3r]; rfl]; exact h0)
          have h1' : DataW.trod enc Tryd.prog w base spare held m' 43 [a1, a2] = some y1 := by rw [show [a1, a2] = ([a0, a1, a2, a3].drop 1).take (Tryd.prog.cellsOf 43) by rw [cells43]; rfl]; exact h1
          obtain ⟨m2, _, hf2⟩ := fields_of_trod Tryd.underlying43 h1'
          obtain ⟨y3, h3⟩ := hf2 0 _ rfl
          obtain ⟨y4, h4⟩ := hf2 1 _ rfl
          obtain ⟨z1, g1, _⟩ := int_of_trod Tryd.underlying3 (cs := [a1]) (by rw [show [a1] = ([a1, a2].drop 0).take (Tryd.prog.cellsOf 3) by rw [cells3r]; rfl]; exact h3)
          obtain ⟨z2, g2, _⟩ := int_of_trod Tryd.underlying3 (cs := [a2]) (by rw [show [a2] = ([a1, a2].drop 1).take (Tryd.prog.cellsOf 3) by rw [cells3r]; rfl]; exact h4)
          obtain ⟨z3, g3, w3⟩ := int_of_trod Tryd.underlying44 (cs := [a3]) (by rw [show [a3] = ([a0, a1, a2, a3].drop 3).take (Tryd.prog.cellsOf 44) by rw [cells44]; rfl]; exact h2)
          simp only [List.cons.injEq, and_true] at g0 g1 g2 g3
          subst g0 g1 g2 g3
          have hw := u32_bd w3
          have e3 : z3 = ((z3.toNat : Nat) : Int) := by omega
          refine ⟨⟨z0, z1, z2, z3.toNat⟩, ⟨c0, c1, c2, ?_⟩, by dsimp only; omega⟩
          dsimp only
          rw [← e3]; exact c3)
      exact ⟨f, fun _ => ⟨b, o, ha, hb, fun i hil => hf i hil⟩⟩
    · exact ⟨fun _ => sm0, fun q => absurd q hp⟩
  obtain ⟨f, hf⟩ := key
  have hlen : ((List.range l).map f).length = l := by simp
  refine ⟨a, c, (List.range l).map f, by rw [hlen], by rw [hlen]; omega, by omega, fun hp => ?_, fun x hx => ?_⟩
  · rw [hlen] at hp
    obtain ⟨b, o, ha, hb, hc⟩ := hf hp
    refine ⟨b, o, ha, hb, fun i x hx => ?_⟩
    have hi : i < l := by have := (List.getElem?_eq_some_iff.1 hx).1; simpa using this
    have : x = f i := by simpa [hi] using hx.symm
    subst this
    exact (hc i hi).1
  · obtain ⟨i, hi, rfl⟩ := List.mem_map.1 hx
    have hi' : i < l := List.mem_range.1 hi
    obtain ⟨b, o, ha, hb, hc⟩ := hf (by omega)
    exact (hc i hi').2
/-- The wrap with the listed variables and the world's shape. -/
theorem returns_laid_shaped {H : Type} {enc : TypeId × Value → H} {C : Checked} {os : Os} {f : FuncId} {fn : Func} {s : ChangeSpec} {laid : List (String × DataW Unit)}
    (own : ownKnob C.prog.godebug = none) (started : os.Started) (noInit : C.prog.inits.idxOf? f = none) (hfn : C.prog.funcs[f]? = some fn)
    (witness : ∃ (w : World) (tape : Tape) (i : Input), w.os = os ∧ (w.forCall tape i).Shaped C.prog ∧ i.vars = [] ∧ Input.okWide C.prog (w.forCall tape i) .any w.heap.size f i ∧
      ((s.pre enc C.prog fn [] false (w.forCall tape i).memory i.args ∧ laidMetH C.prog laid (w.forCall tape i).memory) ∧ sizedMet enc C.prog fn (OpenSpec.ofChange s) false (w.forCall tape i).memory i.args) ∧ Assume.holds {} C.prog (lone (Frame.enter C.prog f i.args .normal) [] (w.forCall tape i)))
    (contract : ∀ (W : World) (base : Nat) (args : Array Value) (ds gs : List (DataW H)) (before : List MemPlace),
      (∀ (j : Nat) t v, fn.params[j]? = some t → args[j]? = some v → Value.okWide C.prog W .any base t v) →
      DataW.Whole enc C.prog fn.params.toList s.vars false W args.toList ds gs before → laidMetH C.prog laid W → W.ShapedOpen C.prog →
      Calls C.prog f args W fun e W' => ∃ v, e = .returned v ∧ s.post enc C.prog fn false true false false W args v W') :
    ReturnsInHanded {} C os f .any (fun w args => (s.pre enc C.prog fn [] false w args ∧ laidMetH C.prog laid w) ∧ sizedMet enc C.prog fn (OpenSpec.ofChange s) false w args) (s.post enc C.prog fn false true false false) := by
  refine returnsInHanded_of_calls own started noInit witness fun w tape i _ hsh _ hok hpre hholds => ?_
  obtain ⟨_, _, _, fn', hfn', _, _, _, _, hval⟩ := hok
  obtain rfl : fn' = fn := Option.some.inj (hfn'.symm.trans hfn)
  obtain ⟨⟨⟨ds, gs, before, hw, _⟩, hl⟩, _⟩ := hpre
  have hw' := DataW.Whole.of_heap (w' := w.forCall tape i) (by rfl) hw
  refine (contract (w.forCall tape i) w.heap.size i.args ds gs before hval hw' (hl.of_heap (by rfl)) hsh).mono fun e W' ⟨v, he, hp⟩ => ?_
  subst he
  exact ChangeSpec.post_blind hp
end Go.Proofs.YthkcdoneghcglaaDoor
