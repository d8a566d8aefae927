import Derived.Test.YthkpmmkddgjhmaaMillB
import Derived.Laws.BytesArg
set_option linter.unusedSimpArgs false
set_option linter.unusedVariables false
namespace Go.Proofs.Ythkpmmkddgjhmaa
open Go Go.RowKit
theorem fa_spec (zs : Nat → Int) (b : Int) : ∀ (n i : Nat), sumW zs i ≤ b → (fa zs b i n = -1 ∧ sumW zs (i + n) ≤ b) ∨ ∃ j : Nat, i ≤ j ∧ j < i + n ∧ fa zs b i n = j ∧ sumW zs j ≤ b ∧ b < sumW zs (j + 1)
  | 0, i, h => .inl ⟨rfl, h⟩
  | n + 1, i, h => by
    by_cases hb : b < sumW zs (i + 1)
    · exact .inr ⟨i, by omega, by omega, by simp only [fa, if_pos hb], h, hb⟩
    · rcases fa_spec zs b n (i + 1) (by omega) with ⟨h1, h2⟩ | ⟨j, h1, h2, h3, h4, h5⟩
      · exact .inl ⟨by simp only [fa, if_neg hb]; exact h1, by rw [show i + (n + 1) = i + 1 + n from by omega]; exact h2⟩
      · exact .inr ⟨j, by omega, by omega, by simp only [fa, if_neg hb]; exact h3, h4, h5⟩
def posB (zs : Nat → Int) : Nat → Bool
  | 0 => false
  | k + 1 => posB zs k || decide (0 < zs k)
theorem posB_sum (zs : Nat → Int) (k : Nat) : posB zs k = decide (0 < sumW zs k) := by
  induction k with
  | zero => simp [posB, sumW]
  | succ k ih =>
    have h1 := sumW_bd zs k
    have h2 : decide (0 < zs k) = decide (0 < cwF (zs k)) := by rw [decide_eq_decide]; unfold cwF; omega
    have h3 := cw_bd (zs k)
    have hs : sumW zs (k + 1) = sumW zs k + cwF (zs k) := rfl
    show (posB zs k || decide (0 < zs k)) = decide (0 < sumW zs (k + 1))
    rw [ih, h2, Bool.eq_iff_iff, Bool.or_eq_true, decide_eq_true_eq, decide_eq_true_eq, decide_eq_true_eq]; omega
theorem weigh_spec (zs : Nat → Int) (len : Nat) (s : Int) : (weighV zs len s = -1 ∧ posB zs len = false) ∨ (∃ j : Nat, j < len ∧ weighV zs len s = j ∧ 0 < zs j ∧ posB zs len = true) := by
  have hsb := sumW_bd zs len
  unfold weighV
  by_cases h0 : sumW zs len = 0
  · exact .inl ⟨if_pos h0, by rw [posB_sum, h0]; rfl⟩
  · right
    rw [if_neg h0]
    have hb := belV_bd (sumW zs len) s
    rcases fa_spec zs (belV (sumW zs len) s) len 0 (by simp [sumW]; omega) with ⟨_, h2⟩ | ⟨j, _, h2, h3, h4, h5⟩
    · rw [Nat.zero_add] at h2; omega
    · refine ⟨j, by omega, h3, ?_, by rw [posB_sum, decide_eq_true_eq]; omega⟩
      have : sumW zs (j + 1) = sumW zs j + cwF (zs j) := rfl
      have hc : 0 < cwF (zs j) := by omega
      unfold cwF at hc; omega
/-- The miller: its block, its die. -/
structure MS (w : World) (M D : Nat) (sz t : Int) : Prop where
  m : Blk w M #[dptr D, .int .i64 sz]
  d : DS w D t
  ne : M ≠ D
theorem MS.next {w w' : World} {M D : Nat} {sz t t' : Int} (h : MS w M D sz t) (hd : DS w' D t') (hm : Mod (fun i => i = D) w w') : MS w' M D sz t' := ⟨h.m.mod hm h.ne, hd, h.ne⟩
theorem MS.alloc {w : World} {M D : Nat} {sz t : Int} (h : MS w M D sz t) (o : Obj) : MS (w.alloc o) M D sz t := ⟨h.m.alloc o, h.d.alloc o, h.ne⟩
theorem MS.drew {w : World} {M D : Nat} {sz t : Int} (h : MS w M D sz t) : MS w.drew M D sz t := ⟨h.m.drew, h.d.drew, h.ne⟩
theorem MS.drewN {w : World} {M D : Nat} {sz t : Int} (h : MS w M D sz t) (n : Nat) : MS (w.drewN n) M D sz t := ⟨h.m.drewN n, h.d.drewN n, h.ne⟩
/-- A value of the kind, the die's next state. -/
def Mills (w : World) (D : Nat) (Q : Value → Prop) (e : Ending) (w' : World) : Prop := ∃ v t, e = .returned v ∧ Q v ∧ U64 t ∧ DS w' D t ∧ Mod (fun i => i = D) w w'
theorem conv1 (w : World) (v : Int) : (convert 60 9 (.slice (some ⟨w.heap.size, 0, none⟩) 1 1)).run Try.prog (w.alloc (.cells #[.int .u8 v] 5)) = .ok (.string (strOfNums [v])) (w.alloc (.cells #[.int .u8 v] 5)) := by
  refine run_convert_bytes_arg (P := Try.prog) _ 60 5 Try.underlying60 Try.underlying5 w.heap.size 0 1 1 [v] rfl ?_ 9 Try.underlying9
  intro i hi
  obtain rfl : i = 0 := by omega
  simp
set_option maxRecDepth 10000 in
theorem keep_any (M D : Nat) (sz s : Int) (w : World) (h : MS w M D sz s) (hs : U64 s) :
    Calls Try.prog 30 #[dptr M] w (Mills w D fun v => ∃ b, v = .string b) := by
  refine opq fun R HR => ?_
  have H := Lib.hid h
  have hc := h.m.cell
  have hf := h.m.free
  have HT := Lib.hid (dbelow_any D s 256 w h.d hs (by omega))
  have HU := Lib.hid (belS_u 256 s hs)
  have hb := belV_bd 256 s
  clear h
  generalize belV 256 s = v at *
  generalize belS 256 s = t at *
  have kc := fun (w : World) => conv1 w v
  go_enter Try.func30, Try.ntmps30
  go_wp2_with fail
  refine HT.out.mono ?_
  rintro e w1 ⟨rfl, h1, M1⟩
  have J1 := Lib.hid h1
  have J2 := Lib.hid M1
  clear h1 M1 HT
  go_wp2
  exact HR.out _ _ ⟨_, _, rfl, ⟨_, rfl⟩, HU.out, J1.out.alloc _, J2.out.alloc _⟩
theorem sectors_any (M D : Nat) (sz s : Int) (w : World) (h : MS w M D sz s) (hs : U64 s) (hz : 1 ≤ sz ∧ sz ≤ 8) :
    Calls Try.prog 28 #[dptr M] w (Mills w D fun v => ∃ a b : Int, v = .tuple #[.int .i64 a, .int .i64 b] ∧ 1 ≤ b ∧ b ≤ 16) := by
  refine opq fun R HR => ?_
  have H := Lib.hid h
  have hcm := h.m.cell
  have HT1 := Lib.hid (fun wz (hd : DS wz D s) => dbelow_any D s (8 * sz) wz hd hs (by omega))
  have hu1 := belS_u (8 * sz) s hs
  have HT2 := Lib.hid (fun wz (hd : DS wz D (belS (8 * sz) s)) => dbelow_any D _ (2 * sz) wz hd hu1 (by omega))
  have HU2 := Lib.hid (belS_u (2 * sz) _ hu1)
  have hb1 := belV_bd (8 * sz) s
  have hb2 := belV_bd (2 * sz) (belS (8 * sz) s)
  clear h hu1
  generalize belV (8 * sz) s = v1 at *
  generalize belS (8 * sz) s = t1 at *
  generalize belV (2 * sz) t1 = v2 at *
  generalize belS (2 * sz) t1 = t2 at *
  have e1 : IntKind.i64.wrap (8 * sz) = 8 * sz := IntWalk.i64_in _ (by omega)
  have e2 : IntKind.i64.wrap (2 * sz) = 2 * sz := IntWalk.i64_in _ (by omega)
  have e3 : IntKind.i64.wrap (1 + v2) = 1 + v2 := IntWalk.i64_in _ (by omega)
  go_enter Try.func28, Try.ntmps28
  go_wp2_with fail
  go_region_held3 (fun w' => ∀ i, w'.cell? ⟨M, i, none⟩ = #[dptr D, Value.int .i64 sz][i]?) (first | exact hcm | assumption | go_keep) ((
    first
    | (go_at_call 21; refine (HT1.out _ H.out.d.drew).mono ?_; rintro e w5 ⟨rfl, h1, M1⟩; have H5 := Lib.hid (H.out.drew.next h1 M1); have N5 := Lib.hid ((Mod.refl (fun i => i = D) w).drew.trans M1); have hq := H5.out.m.cell; clear h1 M1)))
  clear hcm
  go_wp2_with fail
  go_region_held3 (fun w' => ∀ i, w'.cell? ⟨M, i, none⟩ = #[dptr D, Value.int .i64 sz][i]?) (first | exact hq | assumption | go_keep) ((
    first
    | (go_at_call 21; refine (HT2.out _ H5.out.d.drew).mono ?_; rintro e w6 ⟨rfl, h1, M1⟩; have H6 := Lib.hid (H5.out.drew.next h1 M1); have N6 := Lib.hid (N5.out.drew.trans M1); have hq2 := H6.out.m.cell; clear h1 M1)))
  go_wp2
  exact HR.out _ _ ⟨_, _, rfl, ⟨_, _, rfl, by omega, by omega⟩, HU2.out, H6.out.d, N6.out⟩
end Go.Proofs.Ythkpmmkddgjhmaa
