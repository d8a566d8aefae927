import Derived.Test.YthkcdoneghcglaaDoorShelfA
import Derived.Test.YthkcdoneghcglaaDoorShelfC
import Derived.Test.YthkcdoneghcglaaDoorScrC
import Derived.Lib.AppendIntMem
set_option linter.unusedSimpArgs false
set_option linter.unusedVariables false
/- The library's functions at this program: Itoa, Atoi, Split, Cut. -/
namespace Go.Proofs.YthkcdoneghcglaaDoor
open Go Go.RowKit
def strV (l : List UInt8) : Value := .string ⟨l.toArray⟩
theorem bytes_size (l : List UInt8) : (⟨l.toArray⟩ : ByteArray).size = l.length := List.size_toArray
theorem bytes_same (w : World) (s : ByteArray) : Same w (Lib.bytesWorld w 5 s) := ⟨rfl, rfl, rfl, by rw [Lib.bytesWorld_size]; omega, fun k hk _ => Lib.bytesWorld_at_old w 5 s k hk⟩
/-- The table that Itoa reads lies there. -/
abbrev TabOK (w : World) : Prop := Lib.TabIs Tryd.prog w "internal/strconv.uint64pow10" .u64 Lib.pow10Tab
theorem tabG : Tryd.prog.globalNamed "internal/strconv.uint64pow10" = some 1 := by kernel_rfl
theorem tab_lt {w : World} (h : TabOK w) : 1 < w.heap.size := by
  unfold TabOK Lib.TabIs World.var? at h
  rw [tabG] at h
  rcases Nat.lt_or_ge 1 w.heap.size with q | q
  · exact q
  · simp [Array.getElem?_eq_none q] at h
theorem tab_block {w w' : World} (h : TabOK w) (e : w'.heap[1]? = w.heap[1]?) : TabOK w' := by
  unfold TabOK Lib.TabIs World.var? at h ⊢
  rw [tabG] at h ⊢
  simp only [Option.bind_some] at h ⊢
  rw [e]; exact h
theorem synG : Tryd.prog.globalNamed "strconv.ErrSyntax" = some 2 := by kernel_rfl
theorem rngG : Tryd.prog.globalNamed "strconv.ErrRange" = some 3 := by kernel_rfl
theorem var_same {w w' : World} {name : String} {g : Nat} {cs : Array Value} (hG : Tryd.prog.globalNamed name = some g) (h : w.var? Tryd.prog name = some cs) (e : w'.heap[g]? = w.heap[g]?) : w'.var? Tryd.prog name = some cs := by
  unfold World.var? at h ⊢
  rw [hG] at h ⊢
  simp only [Option.bind_some] at h ⊢
  rw [e]; exact h
theorem var_lt {w : World} {name : String} {g : Nat} {cs : Array Value} (hG : Tryd.prog.globalNamed name = some g) (h : w.var? Tryd.prog name = some cs) : g < w.heap.size := by
  unfold World.var? at h
  rw [hG] at h
  simp only [Option.bind_some] at h
  rcases Nat.lt_or_ge g w.heap.size with q | q
  · exact q
  · simp [Array.getElem?_eq_none q] at h
/-- What the library's functions read lies there. -/
structure LibOK (w : World) : Prop where
  tab : TabOK w
  syn : ∃ tp p, w.var? Tryd.prog "strconv.ErrSyntax" = some #[.iface tp p]
  rng : ∃ tp p, w.var? Tryd.prog "strconv.ErrRange" = some #[.iface tp p]
  mx : ∃ m, w.cell? ⟨0, 0, none⟩ = some (.int .i64 m)
theorem LibOK.lt {w : World} (h : LibOK w) : 3 < w.heap.size := let ⟨_, _, q⟩ := h.rng; var_lt rngG q
theorem LibOK.block {w w' : World} (h : LibOK w) (e : ∀ g, g < 4 → w'.heap[g]? = w.heap[g]?) : LibOK w' :=
  ⟨tab_block h.tab (e 1 (by omega)), let ⟨tp, p, q⟩ := h.syn; ⟨tp, p, var_same synG q (e 2 (by omega))⟩, let ⟨tp, p, q⟩ := h.rng; ⟨tp, p, var_same rngG q (e 3 (by omega))⟩, let ⟨m, hm⟩ := h.mx; ⟨m, (World.cell?_of_block (w := w) (e 0 (by omega))).trans hm⟩⟩
theorem LibOK.mod {S : Nat → Prop} {w w' : World} (h : LibOK w) (M : Mod S w w') (hS : ∀ i, S i → 4 ≤ i) : LibOK w' :=
  h.block fun g hg => M.block g (by have := h.lt; omega) (fun q => by have := hS g q; omega)
theorem LibOK.same {w w' : World} (h : LibOK w) (M : Same w w') : LibOK w' := h.mod M fun _ q => q.elim
theorem itoa_any (n : Int) (hn : I64 n) (w : World) (hT : LibOK w) : Calls Tryd.prog 36 #[.int .i64 n] w fun e w' => e = .returned (.string ⟨(Lib.itoa n).toArray⟩) ∧ Same w w' :=
  (Tryd.strconv_Itoa n hn.1 hn.2 w hT.tab).mono fun e w' ⟨h1, k, os, h2⟩ => ⟨h1, by rw [h2]; exact Same.of_below (Lib.below_grow w.heap.size w (Nat.le_refl _) k os)⟩
/-- What Atoi hands back. -/
theorem atoi_any (s : ByteArray) (hs : s.size ≤ 1000000) (w : World) (h : LibOK w) :
    Calls Tryd.prog 58 #[.string s] w fun e w' => (match Lib.atoiAll s.data.toList with
      | .ok v => e = .returned (.tuple #[.int .i64 v, .nilIface])
      | _ => ∃ n N, e = .returned (.tuple #[.int .i64 n, .iface 129 (.pointer (some ⟨N, 0, none⟩))])) ∧ Same w w' := by
  cases e : Lib.atoiAll s.data.toList with
  | ok v =>
    refine (Any.strconv_Atoi_ok Tryd.laysC172 s (by omega) v e w).mono ?_
    rintro x w' ⟨rfl, rfl | ⟨t, rfl⟩⟩
    · exact ⟨rfl, Mod.refl _ _⟩
    · exact ⟨rfl, bytes_same w t⟩
  | range =>
    obtain ⟨tp, p, q⟩ := h.rng
    refine (Any.strconv_Atoi_range_var Tryd.laysC172 s (by omega) e tp p w q).mono ?_
    rintro x w' ⟨N, rfl, _, _, hb⟩
    exact ⟨⟨_, N, rfl⟩, Same.of_below hb⟩
  | _ =>
    obtain ⟨tp, p, q⟩ := h.syn
    refine (Any.strconv_Atoi_syntax_var Tryd.laysC172 s (by omega) e tp p w q).mono ?_
    rintro x w' ⟨N, rfl, _, _, hb⟩
    exact ⟨⟨_, N, rfl⟩, Same.of_below hb⟩
/-- What Atoi and Itoa together tell of a text. -/
theorem pNum_cases (p : List UInt8) : (∃ v, I64 v ∧ Lib.atoiAll p = .ok v ∧ ((Lib.itoa v = p ∧ pNum p = some v) ∨ (Lib.itoa v ≠ p ∧ pNum p = none))) ∨ ((∀ v, Lib.atoiAll p ≠ .ok v) ∧ pNum p = none) := by
  unfold pNum
  cases h : Lib.atoiAll p with
  | ok v =>
    left
    refine ⟨v, Lib.atoiAll_bounds h, rfl, ?_⟩
    by_cases e : Lib.itoa v = p
    · left; exact ⟨e, by simp [e]⟩
    · right; exact ⟨e, by simp [e]⟩
  | _ => right; exact ⟨(fun v q => (by cases q)), rfl⟩
theorem splitB_len (l : List UInt8) : (Lib.splitB ⟨#[32]⟩ 0 (Lib.countB ⟨l.toArray⟩ ⟨#[32]⟩) ⟨l.toArray⟩).length = (spl l).length := by
  have := congrArg List.length (splitB_spl ⟨l.toArray⟩)
  rw [List.length_map] at this; exact this
theorem split_any (l : List UInt8) (hl : l.length ≤ 1000000) (w : World) (hL : LibOK w) : Calls Tryd.prog 47 #[.string ⟨l.toArray⟩, .string ⟨#[32]⟩] w fun e w' => ∃ g, e = .returned (.slice (some ⟨g, 0, none⟩) (spl l).length (spl l).length) ∧ g < w'.heap.size ∧ (∀ i s, (spl l)[i]? = some s → w'.cell? ⟨g, 0 + i, none⟩ = some (strV s)) ∧ Same w w' := by
  obtain ⟨m, hm⟩ := hL.mx
  refine (Tryd.strings_Split ⟨l.toArray⟩ ⟨#[32]⟩ m w (by rw [bytes_size]; omega) hm (by decide)).mono ?_
  rintro e w' ⟨rfl, rfl⟩
  have hc : Lib.countB ⟨l.toArray⟩ ⟨#[32]⟩ + 1 = (spl l).length := by
    rw [← splitB_len, Lib.splitB_all _ (by decide) 0 _ _ rfl]
  refine ⟨w.heap.size, by rw [hc], by simp, fun i s hi => ?_, (Mod.refl _ _).alloc _⟩
  rw [Nat.zero_add]
  refine ((Blk.new w _ 9).cell i).trans ?_
  have e := splitB_spl ⟨l.toArray⟩
  have e2 : (⟨l.toArray⟩ : ByteArray).data.toList = l := rfl
  rw [e2] at e
  rw [← e, List.getElem?_map] at hi
  obtain ⟨x, hx, rfl⟩ := Option.map_eq_some_iff.1 hi
  rw [List.getElem?_toArray, List.getElem?_map, hx]
  rfl
/-- strings.Cut at a line's end. -/
theorem cut_any (l : List UInt8) (hl : l.length ≤ 1000000) (w : World) (hL : LibOK w) : Calls Tryd.prog 41 #[strV l, .string ⟨#[10]⟩] w fun e w' => (match nl l with
    | some (a, r) => e = .returned (.tuple #[strV a, strV r, .bool true])
    | none => e = .returned (.tuple #[strV l, strV [], .bool false])) ∧ Same w w' := by
  obtain ⟨m, hm⟩ := hL.mx
  refine (Tryd.strings_Cut ⟨l.toArray⟩ ⟨#[10]⟩ m w (by rw [bytes_size]; omega) hm).mono ?_
  rintro e w' ⟨rfl, n, rfl⟩
  rw [show (⟨l.toArray⟩ : ByteArray).data.toList = l from rfl, show (⟨#[10]⟩ : ByteArray).data.toList = [10] from rfl, cut_nl]
  refine ⟨?_, (Mod.refl _ _).drewN _⟩
  cases nl l with
  | none => rfl
  | some q => rfl
end Go.Proofs.YthkcdoneghcglaaDoor
