import Derived.Test.YtdengmlidckkeaaGreatDoorOrdB
import Derived.Test.YtdengmlidckkeaaGreatDoorShelfD
import Derived.Lib.RuneBytes
import Derived.Lib.Builder
set_option linter.unusedSimpArgs false
set_option linter.unusedVariables false
namespace Go.Proofs.YtdengmlidckkeaaGreatDoor
open Go Go.RowKit
/-- The library's two errors and its table lie there. -/
structure VarsOK (w : World) : Prop where
  tab : TabOK w
  syn : ∃ tp p, w.var? Tryz.prog "strconv.ErrSyntax" = some #[.iface tp p]
  rng : ∃ tp p, w.var? Tryz.prog "strconv.ErrRange" = some #[.iface tp p]
theorem synG : Tryz.prog.globalNamed "strconv.ErrSyntax" = some 2 := by kernel_rfl
theorem rngG : Tryz.prog.globalNamed "strconv.ErrRange" = some 3 := by kernel_rfl
theorem var_same {w w' : World} {name : String} {g : Nat} {cs : Array Value} (hG : Tryz.prog.globalNamed name = some g) (h : w.var? Tryz.prog name = some cs) (e : w'.heap[g]? = w.heap[g]?) : w'.var? Tryz.prog name = some cs := by
  unfold World.var? at h ⊢
  rw [hG] at h ⊢
  simp only [Option.bind_some] at h ⊢
  rw [e]; exact h
theorem VarsOK.block {w w' : World} (h : VarsOK w) (e : ∀ g, g < 5 → w'.heap[g]? = w.heap[g]?) : VarsOK w' :=
  ⟨tab_block h.tab (e 4 (by omega)), let ⟨tp, p, q⟩ := h.syn; ⟨tp, p, var_same synG q (e 2 (by omega))⟩, let ⟨tp, p, q⟩ := h.rng; ⟨tp, p, var_same rngG q (e 3 (by omega))⟩⟩
theorem VarsOK.same {w w' : World} (h : VarsOK w) (M : Same w w') : VarsOK w' := h.block fun g hg => M.block g (by have := tab_lt h.tab; omega) (fun q => q)
/-- What Atoi hands back. -/
theorem atoi_any (s : ByteArray) (hs : s.size ≤ 1000000) (w : World) (h : VarsOK w) :
    Calls Tryz.prog 63 #[.string s] w fun e w' => (match Lib.atoiAll s.data.toList with
      | .ok v => e = .returned (.tuple #[.int .i64 v, .nilIface])
      | _ => ∃ n N, e = .returned (.tuple #[.int .i64 n, .iface 160 (.pointer (some ⟨N, 0, none⟩))])) ∧ Same w w' := by
  cases e : Lib.atoiAll s.data.toList with
  | ok v =>
    refine (Any.strconv_Atoi_ok Tryz.laysC172 s (by omega) v e w).mono ?_
    rintro x w' ⟨rfl, rfl | ⟨t, rfl⟩⟩
    · exact ⟨rfl, Mod.refl _ _⟩
    · exact ⟨rfl, bytes_same w t⟩
  | range =>
    obtain ⟨tp, p, q⟩ := h.rng
    refine (Any.strconv_Atoi_range_var Tryz.laysC172 s (by omega) e tp p w q).mono ?_
    rintro x w' ⟨N, rfl, _, _, hb⟩
    exact ⟨⟨_, N, rfl⟩, Same.of_below hb⟩
  | _ =>
    obtain ⟨tp, p, q⟩ := h.syn
    refine (Any.strconv_Atoi_syntax_var Tryz.laysC172 s (by omega) e tp p w q).mono ?_
    rintro x w' ⟨N, rfl, _, _, hb⟩
    exact ⟨⟨_, N, rfl⟩, Same.of_below hb⟩
/-- A rune, wide digits as digits. -/
def thin (r : Int) : Int := if 65296 ≤ r ∧ r ≤ 65305 then r - 65296 + 48 else r
def thinFrom (s : ByteArray) : Nat → Nat → List UInt8
  | 0, _ => []
  | fuel + 1, pos => if pos < s.size then Lib.encodeRune (thin (Utf8.decode s pos).1) ++ thinFrom s fuel (pos + (Utf8.decode s pos).2) else []
/-- A text, wide digits as digits. -/
def thinL (s : ByteArray) : List UInt8 := thinFrom s s.size 0
/-- The number of runes. -/
def numberL (s : ByteArray) : Int × Bool :=
  match Lib.atoiAll (thinL s) with
  | .ok n => if Lib.itoa n = thinL s then (n, true) else (0, false)
  | _ => (0, false)
theorem width_pos (s : ByteArray) (pos : Nat) (h : pos < s.size) : 1 ≤ (Utf8.decode s pos).2 := by
  by_cases ha : (s[pos]'h).toNat < 128
  · rw [decode_ascii s pos h ha]
    exact Nat.le_refl _
  · exact (decode_high s pos h (by omega)).2
theorem thinFrom_end (s : ByteArray) (fuel pos : Nat) (h : ¬ pos < s.size) : thinFrom s fuel pos = [] := by
  cases fuel with
  | zero => rfl
  | succ f => simp [thinFrom, h]
end Go.Proofs.YtdengmlidckkeaaGreatDoor
