import Derived.Test.YtlcepoagpocadaaGreatDoorMfC
set_option linter.unusedSimpArgs false
set_option linter.unusedVariables false
set_option maxRecDepth 100000
/- Answers that the document fixes by number. -/
namespace Go.Proofs.YtlcepoagpocadaaGreatDoor
open Go Go.RowKit
def T16 (b : Nat) : List UInt8 := List.replicate 16 (UInt8.ofNat b)
theorem T16_len (b : Nat) : (T16 b).length = 16 := by unfold T16; simp
theorem same_of {K : Nat → Prop} {w0 w w' : World} (J : Same w0 w) (M : Mod (fun i => ¬ K i) w w') (h : ∀ i, i < w0.heap.size → K i) : Same w0 w' := J.then_ M (fun i hi q => q (h i hi))
theorem good_empty : Good (emptyS 2) := ⟨by decide, by decide, by simp [emptyS], by simp [emptyS], by simp [emptyS], by simp [emptyS], by simp [emptyS]⟩
theorem wf_empty (k : Nat) : Wf (emptyS k) := ⟨List.Pairwise.nil, by simp [emptyS]⟩
theorem make16 (W : World) : (Instr.makeSlice 22 (.int .i64 16) (.int .i64 16)).run Tryz.prog W = .ok (.slice (some ⟨W.heap.size, 0, none⟩) 16 16) (W.alloc (.cells #[.int .u8 0, .int .u8 0, .int .u8 0, .int .u8 0, .int .u8 0, .int .u8 0, .int .u8 0, .int .u8 0, .int .u8 0, .int .u8 0, .int .u8 0, .int .u8 0, .int .u8 0, .int .u8 0, .int .u8 0, .int .u8 0] 5)) := by kernel_rfl
@[go_sem] theorem fld31 (e : Int) (d : ByteArray) (a : Option Addr) (n c : Nat) (w : World) : (Instr.field 31 (.agg #[.int .i64 e, .string d, .slice a n c]) 0).run Tryz.prog w = .ok (.int .i64 e) w := by kernel_rfl
theorem fill5 (w : World) : Calls Tryz.prog 28 #[.int .u8 5, .int .i64 1] w fun e w' => e = .returned (.string ⟨#[5, 5, 5, 5, 5, 5, 5, 5, 5, 5, 5, 5, 5, 5, 5, 5]⟩) ∧ Same w w' := fill_one w 5 (by decide)
theorem cat5 : ((⟨#[0, 0, 0, 0, 0, 0, 0, 0, 0, 0, 0, 0, 0, 0, 0, 0]⟩ : ByteArray) ++ ⟨#[5, 5, 5, 5, 5, 5, 5, 5, 5, 5, 5, 5, 5, 5, 5, 5]⟩) = ⟨(zero16 ++ T16 5).toArray⟩ := by kernel_rfl
def Z16 : Array Value := #[.int .u8 0, .int .u8 0, .int .u8 0, .int .u8 0, .int .u8 0, .int .u8 0, .int .u8 0, .int .u8 0, .int .u8 0, .int .u8 0, .int .u8 0, .int .u8 0, .int .u8 0, .int .u8 0, .int .u8 0, .int .u8 0]
theorem conv_row (W : World) (g : Nat) (h : Blk W g Z16) : (convert 22 9 (.slice (some ⟨g, 0, none⟩) 16 16)).run Tryz.prog W = .ok (.string ⟨#[0, 0, 0, 0, 0, 0, 0, 0, 0, 0, 0, 0, 0, 0, 0, 0]⟩) W := by
  have hr : RowV W g 16 (fun _ => .int .u8 ((0 : Nat) : Int)) := ⟨h.lt, fun i hi => by
    rw [h.cell i]
    rcases (show i = 0 ∨ i = 1 ∨ i = 2 ∨ i = 3 ∨ i = 4 ∨ i = 5 ∨ i = 6 ∨ i = 7 ∨ i = 8 ∨ i = 9 ∨ i = 10 ∨ i = 11 ∨ i = 12 ∨ i = 13 ∨ i = 14 ∨ i = 15 by omega) with rfl | rfl | rfl | rfl | rfl | rfl | rfl | rfl | rfl | rfl | rfl | rfl | rfl | rfl | rfl | rfl <;> rfl, h.free⟩
  exact conv22 16 g 0 (by decide) W hr
theorem conv_new (W : World) : (convert 22 9 (.slice (some ⟨W.heap.size, 0, none⟩) 16 16)).run Tryz.prog (W.alloc (.cells #[.int .u8 0, .int .u8 0, .int .u8 0, .int .u8 0, .int .u8 0, .int .u8 0, .int .u8 0, .int .u8 0, .int .u8 0, .int .u8 0, .int .u8 0, .int .u8 0, .int .u8 0, .int .u8 0, .int .u8 0, .int .u8 0] 5)) = .ok (.string ⟨#[0, 0, 0, 0, 0, 0, 0, 0, 0, 0, 0, 0, 0, 0, 0, 0]⟩) (W.alloc (.cells #[.int .u8 0, .int .u8 0, .int .u8 0, .int .u8 0, .int .u8 0, .int .u8 0, .int .u8 0, .int .u8 0, .int .u8 0, .int .u8 0, .int .u8 0, .int .u8 0, .int .u8 0, .int .u8 0, .int .u8 0, .int .u8 0] 5)) := conv_row _ _ (Blk.new W Z16 5)
theorem conv_newD (W : World) : (convert 22 9 (.slice (some ⟨W.heap.size, 0, none⟩) 16 16)).run Tryz.prog (W.alloc (.cells #[.int .u8 0, .int .u8 0, .int .u8 0, .int .u8 0, .int .u8 0, .int .u8 0, .int .u8 0, .int .u8 0, .int .u8 0, .int .u8 0, .int .u8 0, .int .u8 0, .int .u8 0, .int .u8 0, .int .u8 0, .int .u8 0] 5)).drew = .ok (.string ⟨#[0, 0, 0, 0, 0, 0, 0, 0, 0, 0, 0, 0, 0, 0, 0, 0]⟩) (W.alloc (.cells #[.int .u8 0, .int .u8 0, .int .u8 0, .int .u8 0, .int .u8 0, .int .u8 0, .int .u8 0, .int .u8 0, .int .u8 0, .int .u8 0, .int .u8 0, .int .u8 0, .int .u8 0, .int .u8 0, .int .u8 0, .int .u8 0] 5)).drew := conv_row _ _ (Blk.new W Z16 5).drew
theorem two_info {S : MS} (h : infoS S = [(1, 2, false, 0), (2, 2, false, 1)]) : ∃ v1 v2, S.vols = [v1, v2] ∧ v2.fr = 1 := by
  unfold infoS at h
  cases hv : S.vols with
  | nil => rw [hv] at h; cases h
  | cons v1 r =>
    rw [hv] at h
    cases r with
    | nil => simp at h
    | cons v2 r =>
      cases r with
      | nil =>
        simp only [List.map_cons, List.cons.injEq] at h
        exact ⟨v1, v2, rfl, congrArg (fun x => x.2.2.2) h.2.1⟩
      | cons v3 r => simp at h
end Go.Proofs.YtlcepoagpocadaaGreatDoor
