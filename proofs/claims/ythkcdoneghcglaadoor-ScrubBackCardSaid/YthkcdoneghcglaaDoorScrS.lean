import Derived.Test.YthkcdoneghcglaaDoorScrR
set_option linter.unusedSimpArgs false
set_option linter.unusedVariables false
/- strconv.ParseUint at base 16, 32 bits; a line of scrub. -/
namespace Go.Proofs.YthkcdoneghcglaaDoor
open Go Go.RowKit
theorem var_cell {w : World} {name : String} {g : Nat} {v : Value} (hG : Tryd.prog.globalNamed name = some g) (h : w.var? Tryd.prog name = some #[v]) : w.cell? ⟨g, 0, none⟩ = some v := by
  unfold World.var? at h
  rw [hG] at h
  simp only [Option.bind_some] at h
  unfold World.cell?
  cases e : w.heap[g]? with
  | none => rw [e] at h; simp at h
  | some o =>
    rw [e] at h
    cases o with
    | cells cs t fz => simp at h ⊢; rw [h]; rfl
    | _ => simp at h
theorem pu_any (p : List UInt8) (hp : p.length ≤ 1000000) (w : World) (hL : LibOK w) :
    Calls Tryd.prog 59 #[strV p, .int .i64 16, .int .i64 32] w fun e w' => PuV p (fun t x => t = 129 ∧ ∃ N, x = .pointer (some ⟨N, 0, none⟩)) e ∧ Same w w' := by
  refine opq fun R HR => ?_
  have HI := Lib.hid (ipu_any p hp w)
  have HL := Lib.hid hL
  have hsz := bytes_size p
  unfold strV at HI ⊢
  clear hL
  go_enter Tryd.func59, Tryd.ntmps59
  go_wp2_with fail
  refine HI.out.mono ?_
  rintro e w1 ⟨⟨a, err, rfl, a0, a1, h⟩, M1⟩
  have K1 := Lib.hid M1
  clear M1
  rcases h with ⟨rfl, hv⟩ | ⟨hv, t, x, rfl, rfl, rfl | rfl⟩
  · have HV := Lib.hid hv
    clear hv
    go_wp2
    exact HR.out _ _ ⟨⟨_, _, rfl, a0, a1, .inl ⟨rfl, HV.out⟩⟩, K1.out⟩
  · have HV := Lib.hid hv
    obtain ⟨tp, q, hq⟩ := (HL.out.same K1.out).rng
    have HT := Lib.hid (Tryd.strconv_toError_range ⟨#[80, 97, 114, 115, 101, 85, 105, 110, 116]⟩ ⟨p.toArray⟩ 16 32 _ w1 (by omega) (var_cell rngG hq) (.inr ⟨tp, q, rfl⟩))
    clear hv hq
    go_wp2_with fail
    refine HT.out.mono ?_
    rintro e w2 ⟨N, rfl, _, _, hb⟩
    have K2 := Lib.hid (K1.out.same (Same.of_below hb))
    clear hb
    go_wp2
    exact HR.out _ _ ⟨⟨_, _, rfl, a0, a1, .inr ⟨HV.out, _, _, rfl, rfl, _, rfl⟩⟩, K2.out⟩
  · have HV := Lib.hid hv
    obtain ⟨tp, q, hq⟩ := (HL.out.same K1.out).syn
    have HT := Lib.hid (Tryd.strconv_toError_syntax ⟨#[80, 97, 114, 115, 101, 85, 105, 110, 116]⟩ ⟨p.toArray⟩ 16 32 _ w1 (by omega) (var_cell synG hq) (.inr ⟨tp, q, rfl⟩))
    clear hv hq
    go_wp2_with fail
    refine HT.out.mono ?_
    rintro e w2 ⟨N, rfl, _, _, hb⟩
    have K2 := Lib.hid (K1.out.same (Same.of_below hb))
    clear hb
    go_wp2
    exact HR.out _ _ ⟨⟨_, _, rfl, a0, a1, .inr ⟨HV.out, _, _, rfl, rfl, _, rfl⟩⟩, K2.out⟩
end Go.Proofs.YthkcdoneghcglaaDoor
