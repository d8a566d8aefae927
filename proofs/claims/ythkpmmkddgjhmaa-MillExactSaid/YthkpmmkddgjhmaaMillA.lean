import Derived.Test.YthkpmmkddgjhmaaFrame
set_option linter.unusedSimpArgs false
set_option linter.unusedVariables false
namespace Go.Proofs.Ythkpmmkddgjhmaa
open Go Go.RowKit
def stF (s : Int) : Int := IntKind.u64.wrap (s + 11400714819323198485)
def z1F (t : Int) : Int := IntKind.u64.wrap (bits BinOp.xor IntKind.u64 t (t / 1073741824) * 13787848793156543929)
def z2F (t : Int) : Int := IntKind.u64.wrap (bits BinOp.xor IntKind.u64 (z1F t) (z1F t / 134217728) * 10723151780598845931)
def mixF (t : Int) : Int := bits BinOp.xor IntKind.u64 (z2F t) (z2F t / 2147483648)
def U64 (s : Int) : Prop := 0 ≤ s ∧ s ≤ 18446744073709551615
theorem stF_u (s : Int) : U64 (stF s) := by
  unfold stF U64 IntKind.wrap; simp [IntKind.bits, IntKind.signed]; omega
theorem bits_u (op : BinOp) (a b : Int) : U64 (bits op .u64 a b) := by
  have h := wf_bits op .u64 a b
  exact bounds_u64 h
theorem mixF_u (t : Int) : U64 (mixF t) := bits_u _ _ _
abbrev dptr (b : Nat) : Value := .pointer (some ⟨b, 0, none⟩)
/-- A die's cell. -/
abbrev DS (w : World) (D : Nat) (s : Int) : Prop := Blk w D #[.int .u64 s]
/-- The value v; the die's state is t. -/
def Dealt (w : World) (D : Nat) (v : Value) (t : Int) (e : Ending) (w' : World) : Prop := e = .returned v ∧ DS w' D t ∧ Mod (fun i => i = D) w w'
theorem dnext_any (D : Nat) (s : Int) (w : World) (h : DS w D s) (hs : U64 s) :
    Calls Try.prog 27 #[dptr D] w (Dealt w D (.int .u64 (mixF (stF s))) (stF s)) := by
  refine opq fun R HR => ?_
  have hc := h.cell
  have hf := h.free
  unfold U64 at hs
  have hf2 : mixF (stF s) = mixF (stF s) := rfl
  unfold mixF z2F z1F stF at hf2
  have HF := Lib.hid hf2
  clear hf2
  have HB := Lib.hid (h.set 0 (.int .u64 (stF s)))
  clear h
  go_enter Try.func27, Try.ntmps27
  go_wp2
  exact HR.out _ _ ⟨by unfold mixF z2F z1F stF; rfl, HB.out, (Mod.refl (fun i => i = D) w).setCell (fun _ => rfl) _⟩
theorem rdnext_any (D : Nat) (s : Int) (w : World) (h : DS w D s) (hs : U64 s) :
    Calls Try.prog 25 #[dptr D] w (Dealt w D (.int .u64 (mixF (stF s))) (stF s)) := by
  refine opq fun R HR => ?_
  have hc := h.cell
  have hf := h.free
  unfold U64 at hs
  have HB := Lib.hid (h.set 0 (.int .u64 (stF s)))
  clear h
  go_enter Try.func25, Try.ntmps25
  go_wp2
  exact HR.out _ _ ⟨by unfold mixF z2F z1F stF; rfl, HB.out, (Mod.refl (fun i => i = D) w).setCell (fun _ => rfl) _⟩
theorem dnext_nil (w : World) : Calls Try.prog 27 #[.pointer none] w fun e w' => e = .returned (.int .u64 0) ∧ w = w' := by
  refine opq fun R HR => ?_
  go_enter Try.func27, Try.ntmps27
  go_wp2
  exact HR.out _ _ ⟨rfl, rfl⟩
def belV (n s : Int) : Int := if n ≤ 1 then 0 else mixF (stF s) % n
def belS (n s : Int) : Int := if n ≤ 1 then s else stF s
theorem belS_u (n s : Int) (h : U64 s) : U64 (belS n s) := by unfold belS; split; exact h; exact stF_u s
theorem belV_bd (n s : Int) : 0 ≤ belV n s ∧ belV n s < max n 1 := by
  unfold belV
  split
  · omega
  · rename_i h
    have h1 := Int.emod_nonneg (mixF (stF s)) (by omega : n ≠ 0)
    have h2 := Int.emod_lt_of_pos (mixF (stF s)) (by omega : 0 < n)
    omega
theorem wrap64_in' {n : Int} (h : -9223372036854775808 ≤ n ∧ n ≤ 9223372036854775807) : wrap64 n = n := IntWalk.wrap64_in n h
set_option maxHeartbeats 1000000 in
theorem dbelow_any (D : Nat) (s n : Int) (w : World) (h : DS w D s) (hs : U64 s) (hn : -9223372036854775808 ≤ n ∧ n ≤ 9223372036854775807) :
    Calls Try.prog 21 #[dptr D, .int .i64 n] w (Dealt w D (.int .i64 (belV n s)) (belS n s)) := by
  refine opq fun R HR => ?_
  by_cases hn1 : n ≤ 1
  · have e1 : belV n s = 0 := if_pos hn1
    have e2 : belS n s = s := if_pos hn1
    rw [e1, e2] at HR
    have H := Lib.hid h
    clear h e1 e2
    go_enter Try.func21, Try.ntmps21
    go_wp2
    exact HR.out _ _ ⟨rfl, H.out, Mod.refl _ _⟩
  · have e1 : belV n s = mixF (stF s) % n := if_neg hn1
    have e2 : belS n s = stF s := if_neg hn1
    have hb := belV_bd n s
    rw [e1] at hb
    rw [e1, e2] at HR
    have H := Lib.hid h
    have hm := mixF_u (stF s)
    clear h e1 e2
    go_enter Try.func21, Try.ntmps21
    go_wp2_with fail
    refine (dnext_any _ _ _ H.out hs).mono ?_
    generalize mixF (stF s) = x at *
    rintro e w1 ⟨rfl, h1, M1⟩
    unfold U64 at hm
    have HB := Lib.hid hb
    clear hb
    have J1 := Lib.hid h1
    have J2 := Lib.hid M1
    clear h1 M1
    go_wp2
    refine HR.out _ _ ⟨?_, J1.out, J2.out⟩
    show Ending.returned (.int .i64 (wrap64 (x % n))) = _
    rw [wrap64_in' (by have := HB.out; omega)]
theorem dbelow_nil (n : Int) (w : World) (hn : -9223372036854775808 ≤ n ∧ n ≤ 9223372036854775807) : Calls Try.prog 21 #[.pointer none, .int .i64 n] w fun e w' => e = .returned (.int .i64 0) ∧ w = w' := by
  refine opq fun R HR => ?_
  by_cases hn1 : n ≤ 1
  · go_enter Try.func21, Try.ntmps21
    go_wp2
    exact HR.out _ _ ⟨rfl, rfl⟩
  · go_enter Try.func21, Try.ntmps21
    go_wp2_with fail
    refine (dnext_nil _).mono ?_
    rintro e w1 ⟨rfl, rfl⟩
    go_wp2
    exact HR.out _ _ ⟨rfl, rfl⟩
set_option maxHeartbeats 1000000 in
theorem rdbelow_any (D : Nat) (s n : Int) (w : World) (h : DS w D s) (hs : U64 s) (hn : -9223372036854775808 ≤ n ∧ n ≤ 9223372036854775807) :
    Calls Try.prog 16 #[dptr D, .int .i64 n] w (Dealt w D (.int .i64 (belV n s)) (belS n s)) := by
  refine opq fun R HR => ?_
  by_cases hn1 : n ≤ 1
  · have e1 : belV n s = 0 := if_pos hn1
    have e2 : belS n s = s := if_pos hn1
    rw [e1, e2] at HR
    have H := Lib.hid h
    clear h e1 e2
    go_enter Try.func16, Try.ntmps16
    go_wp2
    exact HR.out _ _ ⟨rfl, H.out, Mod.refl _ _⟩
  · have e1 : belV n s = mixF (stF s) % n := if_neg hn1
    have e2 : belS n s = stF s := if_neg hn1
    have hb := belV_bd n s
    rw [e1] at hb
    rw [e1, e2] at HR
    have H := Lib.hid h
    have hm := mixF_u (stF s)
    clear h e1 e2
    go_enter Try.func16, Try.ntmps16
    go_wp2_with fail
    refine (rdnext_any _ _ _ H.out hs).mono ?_
    generalize mixF (stF s) = x at *
    rintro e w1 ⟨rfl, h1, M1⟩
    unfold U64 at hm
    have HB := Lib.hid hb
    clear hb
    have J1 := Lib.hid h1
    have J2 := Lib.hid M1
    clear h1 M1
    go_wp2
    refine HR.out _ _ ⟨?_, J1.out, J2.out⟩
    show Ending.returned (.int .i64 (wrap64 (x % n))) = _
    rw [wrap64_in' (by have := HB.out; omega)]
end Go.Proofs.Ythkpmmkddgjhmaa
