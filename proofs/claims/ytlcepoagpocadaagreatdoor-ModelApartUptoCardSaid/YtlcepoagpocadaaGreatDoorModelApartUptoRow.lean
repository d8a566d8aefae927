/- The row of the law ModelApart in its second form, and its tied card: for every input whose arguments are together of bulk at most 1048576 it returns true and leaves its arguments as they were. The listed tables hold what the program's text lays. -/
import Derived.Test.YtlcepoagpocadaaGreatDoorMgI
import Derived.Test.YtlcepoagpocadaaGreatDoorMfX
import Derived.Deep.DeepHandedRow
namespace Go.Proofs.YtlcepoagpocadaaGreatDoor.modelApartUptoRowed
open Go Go.ChangeShapes Go.WideShapes Go.ChangeAt Go.RowKit
set_option linter.unusedVariables false
theorem str_bulk {H : Type} {enc : TypeId × Value → H} {P : Program} {w : World} {base : Nat} {spare : Nat → Bool} {held : Bool} {t : TypeId} {s : ByteArray} {d : DataW H} {p : List MemPlace} (ht : P.underlying t = some .string) (h : DataW.Trod enc P w base spare held t (.string s) d p) : Rows.uptoBulk d = s.size + 1 := by
  obtain ⟨n, h⟩ := h
  obtain ⟨z, hz, hx, _⟩ := DataW.trod_string ht h
  simp [Value.cells] at hz
  subst hz
  injection hx with e1 e2
  subst e1
  simp [Rows.uptoBulk]
abbrev WIT : Array Value := #[.int .i64 0, .slice none 0 0, .string ⟨#[]⟩]
set_option maxRecDepth 100000 in
theorem reads (os : Os) {H : Type} (enc : TypeId × Value → H) : ∃ places, DataW.whole enc Tryz.prog ((World.laidAll Tryz.prog os laid7).forCall (fun _ _ => 0) ⟨#[], WIT, []⟩).memory Tryz.f6.params.toList Rows.modelApartSpec.vars false WIT.toList 8 = some ([.lit (.int .i64 0), .nil, .lit (.string [])], [], places) :=
  ⟨[], by kernel_rfl⟩
set_option maxRecDepth 100000 in
theorem lifted (os : Os) (started : os.Started) (H : Type) (enc : TypeId × Value → H) (F : Stop.Interp) :
    ReturnsInHanded {} Tryz.checked os 6 .any ((Rows.OpenSpec.upto Rows.modelApartSpec).preRow enc Tryz.prog Tryz.f6 Rows.modelApartUptoRow.domain false Rows.modelApartUptoRow.laid) (((Rows.OpenSpec.upto Rows.modelApartSpec).at F).post enc Tryz.prog Tryz.f6 false true false false) := by
  obtain ⟨places, hx⟩ := reads os enc
  refine returnsInHanded_of_row (C := Tryz.checked) (s := Rows.OpenSpec.upto Rows.modelApartSpec) ownT started (by kernel_rfl) Tryz.func6
    ⟨World.laidAll Tryz.prog os laid7, fun _ _ => 0, ⟨#[], WIT, []⟩, World.laidAll_os _ _ _, World.shaped_of_ZipB (by kernel_rfl) (by kernel_rfl), rfl, (Input.okWide_of_okWideB (by kernel_rfl)).2,
      OpenSpec.preRow_of_cond 8 hx (by kernel_rfl) (fun k hk => by cases hk; kernel_rfl) (by kernel_rfl) (by rw [MakeChecks.laidMetH_plain _ _ _ (by kernel_rfl)]; exact laidMet_laidAll _ (by kernel_rfl) (by kernel_rfl)),
      by simp only [Assume.holds]; exact ⟨by simp, by simp, fun _ => Modest.zero, by simp, by simp⟩⟩ ?_
  intro W base args ds gs before hval0 hW _ hcond _ hL hsh _
  have hsm := hcond _ rfl
  have hval : ∀ (j : Nat) t v, Tryz.f6.params[j]? = some t → args[j]? = some v → Value.okWide Tryz.prog W .any base t v := hval0
  have hW' := hW
  obtain ⟨p, q, hA0, hV, rfl, hfz, hnd⟩ := hW
  have hA : DataW.TrodAll enc Tryz.prog W 0 (fun _ => true) true Tryz.f6.params.toList args.toList ds p := hA0
  rw [Tryz.params6] at hA hval
  obtain ⟨v0, vs0, d0, ds0, p0, q0, hargs, rfl, rfl, h0, r0⟩ := trodAll_cons hA
  obtain ⟨v1, vs1, d1, ds1, p1, q1, e1, rfl, rfl, h1, r1⟩ := trodAll_cons r0
  obtain ⟨v2, vs2, d2, ds2, p2, q2, e2, rfl, rfl, h2, r2⟩ := trodAll_cons r1
  obtain ⟨rfl, rfl, rfl⟩ := trodAll_nil r2
  obtain rfl : args = #[v0, v1, v2] := by cases args; simp_all
  obtain ⟨rfl, rfl⟩ := trodVars_none hV
  have k0 := h0
  have lt0 : ∀ x ∈ p0, x.block < W.heap.size := by obtain ⟨m, hm⟩ := k0; exact DataW.trod_lt m _ _ _ hm
  have k1 := h1
  have lt1 : ∀ x ∈ p1, x.block < W.heap.size := by obtain ⟨m, hm⟩ := k1; exact DataW.trod_lt m _ _ _ hm
  have k2 := h2
  have lt2 : ∀ x ∈ p2, x.block < W.heap.size := by obtain ⟨m, hm⟩ := k2; exact DataW.trod_lt m _ _ _ hm
  have hT := lib_of hL hsh
  obtain ⟨n0, hv0, hw0⟩ := int_open Tryz.underlying3 (hval 0 3 v0 rfl rfl) h0
  obtain ⟨l1, a1, n1, c1, hv1, hl1, hr1⟩ := strings_open Tryz.underlying32 Tryz.underlying9 (by kernel_rfl) (hval 1 32 v1 rfl rfl) h1
  obtain ⟨n2, hv2⟩ := string_open Tryz.underlying9 (hval 2 9 v2 rfl rfl)
  have hbk : n2.length ≤ 1050000 := by
    have e := str_bulk (P := Tryz.prog) Tryz.underlying9 (by rw [← hv2]; exact h2)
    have h9 : Rows.uptoBulkAll ([d0, d1, d2] ++ []) ≤ 1048576 := of_decide_eq_true hsm
    simp only [List.append_nil, Rows.uptoBulkAll] at h9
    have e2 : (⟨n2.toArray⟩ : ByteArray).size = n2.length := bytes_size n2
    omega
  clear hA0 hval0 hsm hcond
  have hwalk : Calls Tryz.prog 6 #[v0, v1, v2] W fun e w' => e = .returned (.bool true) ∧ Below W.heap.size W w' := by
    rw [hv0, hv1, hv2]; exact (apart_main l1 a1 n1 c1 hl1 n0 n2 hbk W hT hr1).mono fun e w' ⟨h1, h2⟩ => ⟨h1, (show Same W w' from h2).below⟩
  refine hwalk.mono fun e W' ⟨he, bel⟩ => ?_
  subst he
  exact ⟨_, rfl, _, _, _, [], _, [], hW', trodAll_mk1 (shut_bool Tryz.underlying4 _), (trodAll_cons_mk (Below.trod laidOutT (by kernel_rfl) (of_decide_eq_true (by kernel_rfl)) k0 bel lt0) (trodAll_cons_mk (Below.trod laidOutT (by kernel_rfl) (of_decide_eq_true (by kernel_rfl)) k1 bel lt1) (trodAll_cons_mk (Below.trod laidOutT (by kernel_rfl) (of_decide_eq_true (by kernel_rfl)) k2 bel lt2) trodAll_mk0))), rfl, bel.frame _, fun h => by cases h⟩
theorem over : Rows.ModelApartUptoSaid :=
  OpenClaim.holds_of_cond 6 Tryz.f6 rfl rfl rfl rfl rfl rfl rfl ⟨rfl, rfl, rfl, rfl, rfl⟩ rfl rfl rfl rfl rfl (by kernel_rfl) Tryz.func6 (by kernel_rfl)
    (of_decide_eq_true (by kernel_rfl)) (by unfold Func.isWrapper; first | (rw [if_pos (by decide +kernel)]; kernel_rfl) | (rw [if_neg (by decide +kernel)]; exact ⟨rfl, rfl⟩))
    (fun os started H enc _ F => by rw [OpenClaim.pre_eq_preRow]; exact lifted os started H enc F)
/-- The statement. -/
theorem proved : Rows.ModelApartUptoCardSaid :=
  Claim7.holds_tied_plain_at .later [] [.data, .data, .data, .data, .sentinel, .sentinel, .pinned] true (true, "b0bd8ef813939bdcea98bfff258c09299615704674c5992d4fc079a498a15025") true
    over (fun _ h => by cases h) (by kernel_rfl) (fun _ h => by cases h) modelApartUpto_row_tie rfl ⟨rfl, rfl⟩ (by kernel_rfl) rfl
    (fun f fn hf hfn => by
      obtain rfl : f = 6 := Option.some.inj ((show Tryz.prog.funcNamed "tierce/tiercelaw22.ModelApart" = some 6 by kernel_rfl).symm.trans hf) |>.symm
      obtain rfl : fn = Tryz.f6 := (Option.some.inj (Tryz.func6.symm.trans hfn)).symm
      exact ⟨by kernel_rfl, fun j t ht => by
        rw [Tryz.params6] at ht
        have hm : t ∈ [3, 32, 9] := by simpa using Array.mem_of_getElem? ht
        have hall : ([3, 32, 9].all fun u => !Tryz.prog.wantsStandIn u) = true := by kernel_rfl
        exact (show Tryz.prog.wantsStandIn t = false by simpa using List.all_eq_true.1 hall t hm)⟩)
    (by kernel_rfl)
end Go.Proofs.YtlcepoagpocadaaGreatDoor.modelApartUptoRowed
