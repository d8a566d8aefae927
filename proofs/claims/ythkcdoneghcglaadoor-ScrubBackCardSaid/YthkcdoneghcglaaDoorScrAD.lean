import Derived.Test.YthkcdoneghcglaaDoorScrV
import Derived.Test.YthkcdoneghcglaaDoorScrW
import Derived.Test.YthkcdoneghcglaaDoorScrU
set_option linter.unusedSimpArgs false
set_option linter.unusedVariables false
/- The answers that the document fixes by number. -/
namespace Go.Proofs.YthkcdoneghcglaaDoor
open Go Go.RowKit
def l0 : List Sm := [⟨3, 1, 0, 10⟩]
theorem l0_good : goodL l0 = true := by decide
theorem l0_text : textL l0 = [51, 32, 49, 32, 48, 32, 48, 48, 48, 48, 48, 48, 48, 97, 10] := by
  have e3 : Lib.itoa 3 = [51] := by rw [itoa_pos 3 (by decide)]; exact Lib.decDigits_one (i := 3) (by decide)
  have e1 : Lib.itoa 1 = [49] := by rw [itoa_pos 1 (by decide)]; exact Lib.decDigits_one (i := 1) (by decide)
  have e0 : Lib.itoa 0 = [48] := by rw [itoa_pos 0 (by decide)]; exact Lib.decDigits_one (i := 0) (by decide)
  unfold textL l0 lineT
  simp only [List.flatMap_cons, List.flatMap_nil, e3, e1, e0]
  decide
theorem l0_parse : parseS [51, 32, 49, 32, 48, 32, 48, 48, 48, 48, 48, 48, 48, 97, 10] = some l0 := by
  rw [← l0_text]
  exact parse_text l0 l0_good (by intro x hx; unfold l0 at hx; simp at hx; subst hx; decide)
theorem l0_gone : ag l0 [] = [(3, 1)] := by unfold l0; rw [ag_l, ag_nil]
set_option maxRecDepth 10000 in
set_option maxHeartbeats 8000000 in
theorem awake_any (w : World) (hL : LibOK w) : Calls Tryd.prog 8 #[] w fun e w' => e = .returned (.bool true) ∧ Same w w' := by
  refine opq fun R HR => ?_
  have HL := Lib.hid hL
  have h4 := hL.lt
  clear hL
  have S1 := Lib.hid (fun (w' : World) (a : Option Addr) (h : Sms w' a l0) (hL : LibOK w') => show Calls Tryd.prog 13 #[.slice a 1 1] w' fun e w'' => e = .returned (.string ⟨#[51, 32, 49, 32, 48, 32, 48, 48, 48, 48, 48, 48, 48, 97, 10]⟩) ∧ Same w' w'' by
    have := text_any a 1 l0 w' (by decide) h (by intro x hx; unfold l0 at hx; simp at hx; subst hx; decide) hL
    rw [l0_good, if_pos rfl, l0_text] at this
    exact this)
  have S2 := Lib.hid (fun (w' : World) (hL : LibOK w') => show Calls Tryd.prog 15 #[.string ⟨#[51, 32, 49, 32, 48, 32, 48, 48, 48, 48, 48, 48, 48, 97, 10]⟩] w' fun e w'' => (∃ a c, e = .returned (.tuple #[.slice a 1 c, .int .i64 0]) ∧ Sms w'' a l0) ∧ Same w' w'' by
    have := parse_any [51, 32, 49, 32, 48, 32, 48, 48, 48, 48, 48, 48, 48, 97, 10] (by decide) w' hL
    rw [l0_parse] at this
    exact this)
  have S3 := Lib.hid (fun (w' : World) (a : Option Addr) (h : Sms w' a l0) => show Calls Tryd.prog 10 #[.slice a 1 1, .slice none 0 0] w' fun e w'' => (∃ a c, e = .returned (.slice a 1 c) ∧ Fds w'' a [(3, 1)]) ∧ Same w' w'' by
    have := against_any a none 1 0 l0 [] w' (by decide) (by decide) (by decide) (by decide) (by decide) (by decide) h (fun q => by simp at q)
    rw [l0_good, l0_gone] at this
    exact this)
  have S4 := Lib.hid (fun (w' : World) (a : Option Addr) (h : Sms w' a l0) => show Calls Tryd.prog 10 #[.slice a 1 1, .slice a 1 1] w' fun e w'' => (∃ a c, e = .returned (.slice a 0 c)) ∧ Same w' w'' by
    have := against_any a a 1 1 l0 l0 w' (by decide) (by decide) (by decide) (by decide) (by decide) (by decide) h h
    rw [l0_good, ag_self] at this
    refine this.mono ?_
    rintro e w2 ⟨⟨a, c, rfl, _⟩, M⟩
    exact ⟨⟨a, c, rfl⟩, M⟩)
  go_enter Tryd.func8, Tryd.ntmps8
  go_wp2_with fail
  have M0 := Lib.hid ((Mod.refl (fun _ => False) w).alloc (.cells #[.int .i64 3, .int .i64 1, .int .i64 0, .int .u32 10] 46))
  have B0 := Lib.hid (Blk.new w #[.int .i64 3, .int .i64 1, .int .i64 0, .int .u32 10] 46)
  generalize w.alloc _ = W0 at *
  obtain ⟨Z, hZ⟩ : ∃ Z, w.heap.size = Z := ⟨_, rfl⟩
  rw [hZ] at B0 ⊢
  have A0 := Lib.hid (show Sms W0 (some ⟨Z, 0, none⟩) l0 from fun _ => ⟨Z, 0, rfl, B0.out.lt, fun i x hx => by
    have hi : i = 0 := by have := (List.getElem?_eq_some_iff.1 hx).1; unfold l0 at this; simp at this; omega
    subst hi
    unfold l0 at hx
    simp at hx
    subst hx
    exact ⟨B0.out.cell 0, B0.out.cell 1, B0.out.cell 2, B0.out.cell 3⟩⟩)
  refine (S1.out W0 _ A0.out (HL.out.same M0.out)).mono ?_
  rintro e w1 ⟨rfl, M1⟩
  have K1 := Lib.hid (M0.out.same M1)
  have A1 := Lib.hid (A0.out.same M1)
  clear M1 A0 B0 M0
  go_wp2_with fail
  refine (S2.out w1 (HL.out.same K1.out)).mono ?_
  rintro e w2 ⟨⟨a2, c2, rfl, hp⟩, M2⟩
  have K2 := Lib.hid (K1.out.same M2)
  have A2 := Lib.hid (A1.out.same M2)
  have P2 := Lib.hid hp
  clear M2 hp A1 K1
  go_wp2_with fail
  refine (S3.out w2 _ A2.out).mono ?_
  rintro e w3 ⟨⟨a3, c3, rfl, hf⟩, M3⟩
  have K3 := Lib.hid (K2.out.same M3)
  have A3 := Lib.hid (A2.out.same M3)
  have P3 := Lib.hid (P2.out.same M3)
  have F3 := Lib.hid hf
  clear M3 hf A2 P2 K2
  obtain ⟨b2, o2, rfl, hb2, hc2⟩ := P3.out (by decide)
  obtain ⟨b3, o3, rfl, hb3, hc3⟩ := F3.out (by decide)
  obtain ⟨bz, oz, hzz, hbz, hcz⟩ := A3.out (by decide)
  cases hzz
  have HC2 := Lib.hid (hc2 0 ⟨3, 1, 0, 10⟩ rfl)
  have HC3 := Lib.hid (hc3 0 (3, 1) rfl)
  have HCZ := Lib.hid (hcz 0 ⟨3, 1, 0, 10⟩ rfl)
  rw [Nat.zero_mul] at HC2 HC3 HCZ
  simp only [Nat.add_zero] at HC2 HC3 HCZ
  clear hc2 hc3 hcz
  go_wp2_with fail
  have HK := Lib.hid (fun (w' : World) (M : Same w3 w') => And.intro (cell4_same M hb2 HC2.out) (And.intro (cell4_same M hbz HCZ.out) (And.intro ((M.cell hb3 (fun q => q) o3).trans HC3.out.1) ((M.cell hb3 (fun q => q) (o3 + 1)).trans HC3.out.2))))
  refine wp_region_held_drew (S := (fun w' => (w'.cell? ⟨b2, o2, none⟩ = some (.int .i64 3) ∧ w'.cell? ⟨b2, o2 + 1, none⟩ = some (.int .i64 1) ∧ w'.cell? ⟨b2, o2 + 2, none⟩ = some (.int .i64 0) ∧ w'.cell? ⟨b2, o2 + 3, none⟩ = some (.int .u32 10)) ∧ (w'.cell? ⟨Z, 0, none⟩ = some (.int .i64 3) ∧ w'.cell? ⟨Z, 1, none⟩ = some (.int .i64 1) ∧ w'.cell? ⟨Z, 2, none⟩ = some (.int .i64 0) ∧ w'.cell? ⟨Z, 3, none⟩ = some (.int .u32 10)) ∧ (w'.cell? ⟨b3, o3, none⟩ = some (.int .i64 3) ∧ w'.cell? ⟨b3, o3 + 1, none⟩ = some (.int .i64 1)))) (by kernel_rfl) (by (try dsimp only); first | exact HK.out _ ((Mod.refl (fun _ => False) w3).drew) | exact HK.out _ J4.out | exact HK.out _ J5.out | assumption) (fun hHeld => ?_)
  refine wpAnyH_take (i := 0) (v := ?_) rfl (by kernel_rfl) (by kernel_rfl) (by kernel_rfl) (fun _ _ _ h => h) (Or.inl ⟨by rfl, ?_⟩) (by assumption) ?_
  rotate_left
  · intro w hSw
    try dsimp only at hSw
    go_simp
    try with_reducible rfl
  try simp only [List.getElem_toArray, List.getElem_cons_succ, List.getElem_cons_zero, Act.put, List.setIfInBounds_toArray, List.set_cons_zero, List.set_cons_succ]
  refine wpAnyH_ready (rs := [1]) (by kernel_rfl) (by simp) ?_
  refine AllReadyH.cons rfl (fun Kc hKc => ?_) AllReadyH.nil
  go_simp
  refine (S1.out w3.drew _ (A3.out.same (Mod.refl (fun _ => False) w3).drew) (HL.out.same K3.out.drew)).mono ?_
  rintro e w4 ⟨rfl, MM⟩
  have J4 := Lib.hid ((Mod.refl (fun _ => False) w3).drew.same MM)
  clear MM
  go_wp2_with fail
  refine hKc.out _ _ (by (try dsimp only); first | exact HK.out _ ((Mod.refl (fun _ => False) w3).drew) | exact HK.out _ J4.out | exact HK.out _ J5.out | assumption) (fun hHeld => ?_)
  clear hKc Kc
  try simp only [List.getElem_toArray, List.getElem_cons_succ, List.getElem_cons_zero, Act.put, List.setIfInBounds_toArray, List.set_cons_zero, List.set_cons_succ]
  refine wpAnyH_take (i := 2) (v := ?_) rfl (by kernel_rfl) (by kernel_rfl) (by kernel_rfl) (fun _ _ _ h => h) (Or.inl ⟨by rfl, ?_⟩) (by assumption) ?_
  rotate_left
  · intro w hSw
    try dsimp only at hSw
    go_simp
    try with_reducible rfl
  try simp only [List.getElem_toArray, List.getElem_cons_succ, List.getElem_cons_zero, Act.put, List.setIfInBounds_toArray, List.set_cons_zero, List.set_cons_succ]
  refine wpAnyH_take (i := 3) (v := ?_) rfl (by kernel_rfl) (by kernel_rfl) (by kernel_rfl) (fun _ _ _ h => h) (Or.inl ⟨by rfl, ?_⟩) (by assumption) ?_
  rotate_left
  · intro w hSw
    try dsimp only at hSw
    go_simp
    try with_reducible rfl
  try simp only [List.getElem_toArray, List.getElem_cons_succ, List.getElem_cons_zero, Act.put, List.setIfInBounds_toArray, List.set_cons_zero, List.set_cons_succ]
  refine wpAnyH_take (i := 4) (v := ?_) rfl (by kernel_rfl) (by kernel_rfl) (by kernel_rfl) (fun _ _ _ h => h) (Or.inl ⟨by rfl, ?_⟩) (by assumption) ?_
  rotate_left
  · intro w hSw
    try dsimp only at hSw
    go_simp
    try with_reducible rfl
  try simp only [List.getElem_toArray, List.getElem_cons_succ, List.getElem_cons_zero, Act.put, List.setIfInBounds_toArray, List.set_cons_zero, List.set_cons_succ]
  refine wpAnyH_take (i := 5) (v := ?_) rfl (by kernel_rfl) (by kernel_rfl) (by kernel_rfl) (fun _ _ _ h => h) (Or.inl ⟨by rfl, ?_⟩) (by assumption) ?_
  rotate_left
  · intro w hSw
    try dsimp only at hSw
    go_simp
    try with_reducible rfl
  try simp only [List.getElem_toArray, List.getElem_cons_succ, List.getElem_cons_zero, Act.put, List.setIfInBounds_toArray, List.set_cons_zero, List.set_cons_succ]
  refine wpAnyH_take (i := 6) (v := ?_) rfl (by kernel_rfl) (by kernel_rfl) (by kernel_rfl) (fun _ _ _ h => h) (Or.inl ⟨by rfl, ?_⟩) (by assumption) ?_
  rotate_left
  · intro w hSw
    try dsimp only at hSw
    go_simp
    try with_reducible rfl
  try simp only [List.getElem_toArray, List.getElem_cons_succ, List.getElem_cons_zero, Act.put, List.setIfInBounds_toArray, List.set_cons_zero, List.set_cons_succ]
  refine wpAnyH_take (i := 7) (v := ?_) rfl (by kernel_rfl) (by kernel_rfl) (by kernel_rfl) (fun _ _ _ h => h) (Or.inl ⟨by rfl, ?_⟩) (by assumption) ?_
  rotate_left
  · intro w hSw
    try dsimp only at hSw
    go_simp
    try with_reducible rfl
  try simp only [List.getElem_toArray, List.getElem_cons_succ, List.getElem_cons_zero, Act.put, List.setIfInBounds_toArray, List.set_cons_zero, List.set_cons_succ]
  refine wpAnyH_take (i := 8) (v := ?_) rfl (by kernel_rfl) (by kernel_rfl) (by kernel_rfl) (fun _ _ _ h => h) (Or.inl ⟨by rfl, ?_⟩) (by assumption) ?_
  rotate_left
  · intro w hSw
    try dsimp only at hSw
    go_simp
    try with_reducible rfl
  try simp only [List.getElem_toArray, List.getElem_cons_succ, List.getElem_cons_zero, Act.put, List.setIfInBounds_toArray, List.set_cons_zero, List.set_cons_succ]
  refine wpAnyH_take (i := 9) (v := ?_) rfl (by kernel_rfl) (by kernel_rfl) (by kernel_rfl) (fun _ _ _ h => h) (Or.inl ⟨by rfl, ?_⟩) (by assumption) ?_
  rotate_left
  · intro w hSw
    try dsimp only at hSw
    go_simp
    try with_reducible rfl
  try simp only [List.getElem_toArray, List.getElem_cons_succ, List.getElem_cons_zero, Act.put, List.setIfInBounds_toArray, List.set_cons_zero, List.set_cons_succ]
  refine wpAnyH_take (i := 10) (v := ?_) rfl (by kernel_rfl) (by kernel_rfl) (by kernel_rfl) (fun _ _ _ h => h) (Or.inl ⟨by rfl, ?_⟩) (by assumption) ?_
  rotate_left
  · intro w hSw
    try dsimp only at hSw
    go_simp
    try with_reducible rfl
  try simp only [List.getElem_toArray, List.getElem_cons_succ, List.getElem_cons_zero, Act.put, List.setIfInBounds_toArray, List.set_cons_zero, List.set_cons_succ]
  refine wpAnyH_take (i := 11) (v := ?_) rfl (by kernel_rfl) (by kernel_rfl) (by kernel_rfl) (fun _ _ _ h => h) (Or.inl ⟨by rfl, ?_⟩) (by assumption) ?_
  rotate_left
  · intro w hSw
    try dsimp only at hSw
    go_simp
    try with_reducible rfl
  try simp only [List.getElem_toArray, List.getElem_cons_succ, List.getElem_cons_zero, Act.put, List.setIfInBounds_toArray, List.set_cons_zero, List.set_cons_succ]
  refine wpAnyH_take (i := 12) (v := ?_) rfl (by kernel_rfl) (by kernel_rfl) (by kernel_rfl) (fun _ _ _ h => h) (Or.inl ⟨by rfl, ?_⟩) (by assumption) ?_
  rotate_left
  · intro w hSw
    try dsimp only at hSw
    go_simp
    try with_reducible rfl
  try simp only [List.getElem_toArray, List.getElem_cons_succ, List.getElem_cons_zero, Act.put, List.setIfInBounds_toArray, List.set_cons_zero, List.set_cons_succ]
  refine wpAnyH_take (i := 13) (v := ?_) rfl (by kernel_rfl) (by kernel_rfl) (by kernel_rfl) (fun _ _ _ h => h) (Or.inl ⟨by rfl, ?_⟩) (by assumption) ?_
  rotate_left
  · intro w hSw
    try dsimp only at hSw
    go_simp
    try with_reducible rfl
  try simp only [List.getElem_toArray, List.getElem_cons_succ, List.getElem_cons_zero, Act.put, List.setIfInBounds_toArray, List.set_cons_zero, List.set_cons_succ]
  refine wpAnyH_take (i := 14) (v := ?_) rfl (by kernel_rfl) (by kernel_rfl) (by kernel_rfl) (fun _ _ _ h => h) (Or.inl ⟨by rfl, ?_⟩) (by assumption) ?_
  rotate_left
  · intro w hSw
    try dsimp only at hSw
    go_simp
    try with_reducible rfl
  try simp only [List.getElem_toArray, List.getElem_cons_succ, List.getElem_cons_zero, Act.put, List.setIfInBounds_toArray, List.set_cons_zero, List.set_cons_succ]
  refine wpAnyH_take (i := 16) (v := ?_) rfl (by kernel_rfl) (by kernel_rfl) (by kernel_rfl) (fun _ _ _ h => h) (Or.inl ⟨by rfl, ?_⟩) (by assumption) ?_
  rotate_left
  · intro w hSw
    try dsimp only at hSw
    go_simp
    try with_reducible rfl
  try simp only [List.getElem_toArray, List.getElem_cons_succ, List.getElem_cons_zero, Act.put, List.setIfInBounds_toArray, List.set_cons_zero, List.set_cons_succ]
  refine wpAnyH_take (i := 17) (v := ?_) rfl (by kernel_rfl) (by kernel_rfl) (by kernel_rfl) (fun _ _ _ h => h) (Or.inl ⟨by rfl, ?_⟩) (by assumption) ?_
  rotate_left
  · intro w hSw
    try dsimp only at hSw
    go_simp
    try with_reducible rfl
  try simp only [List.getElem_toArray, List.getElem_cons_succ, List.getElem_cons_zero, Act.put, List.setIfInBounds_toArray, List.set_cons_zero, List.set_cons_succ]
  refine wpAnyH_take (i := 15) (v := ?_) rfl (by kernel_rfl) (by kernel_rfl) (by kernel_rfl) (fun _ _ _ h => h) (Or.inl ⟨by rfl, ?_⟩) (by assumption) ?_
  rotate_left
  · intro w hSw
    try dsimp only at hSw
    obtain ⟨⟨q0, q1, q2, q3⟩, ⟨p0, p1, p2, p3⟩, r0, r1⟩ := hSw
    go_simp
    try with_reducible rfl
  try simp only [List.getElem_toArray, List.getElem_cons_succ, List.getElem_cons_zero, Act.put, List.setIfInBounds_toArray, List.set_cons_zero, List.set_cons_succ]
  refine wpAnyH_take (i := 18) (v := ?_) rfl (by kernel_rfl) (by kernel_rfl) (by kernel_rfl) (fun _ _ _ h => h) (Or.inl ⟨by rfl, ?_⟩) (by assumption) ?_
  rotate_left
  · intro w hSw
    try dsimp only at hSw
    obtain ⟨⟨q0, q1, q2, q3⟩, ⟨p0, p1, p2, p3⟩, r0, r1⟩ := hSw
    go_simp
    try with_reducible rfl
  try simp only [List.getElem_toArray, List.getElem_cons_succ, List.getElem_cons_zero, Act.put, List.setIfInBounds_toArray, List.set_cons_zero, List.set_cons_succ]
  refine wpAnyH_take (i := 19) (v := ?_) rfl (by kernel_rfl) (by kernel_rfl) (by kernel_rfl) (fun _ _ _ h => h) (Or.inl ⟨by rfl, ?_⟩) (by assumption) ?_
  rotate_left
  · intro w hSw
    try dsimp only at hSw
    go_simp
    try with_reducible rfl
  try simp only [List.getElem_toArray, List.getElem_cons_succ, List.getElem_cons_zero, Act.put, List.setIfInBounds_toArray, List.set_cons_zero, List.set_cons_succ]
  refine wpAnyH_take (i := 20) (v := ?_) rfl (by kernel_rfl) (by kernel_rfl) (by kernel_rfl) (fun _ _ _ h => h) (Or.inl ⟨by rfl, ?_⟩) (by assumption) ?_
  rotate_left
  · intro w hSw
    try dsimp only at hSw
    go_simp
    try with_reducible rfl
  try simp only [List.getElem_toArray, List.getElem_cons_succ, List.getElem_cons_zero, Act.put, List.setIfInBounds_toArray, List.set_cons_zero, List.set_cons_succ]
  refine wpAnyH_take (i := 21) (v := ?_) rfl (by kernel_rfl) (by kernel_rfl) (by kernel_rfl) (fun _ _ _ h => h) (Or.inl ⟨by rfl, ?_⟩) (by assumption) ?_
  rotate_left
  · intro w hSw
    try dsimp only at hSw
    go_simp
    try with_reducible rfl
  try simp only [List.getElem_toArray, List.getElem_cons_succ, List.getElem_cons_zero, Act.put, List.setIfInBounds_toArray, List.set_cons_zero, List.set_cons_succ]
  refine wpAnyH_take (i := 22) (v := ?_) rfl (by kernel_rfl) (by kernel_rfl) (by kernel_rfl) (fun _ _ _ h => h) (Or.inl ⟨by rfl, ?_⟩) (by assumption) ?_
  rotate_left
  · intro w hSw
    try dsimp only at hSw
    go_simp
    try with_reducible rfl
  try simp only [List.getElem_toArray, List.getElem_cons_succ, List.getElem_cons_zero, Act.put, List.setIfInBounds_toArray, List.set_cons_zero, List.set_cons_succ]
  refine wpAnyH_take (i := 23) (v := ?_) rfl (by kernel_rfl) (by kernel_rfl) (by kernel_rfl) (fun _ _ _ h => h) (Or.inl ⟨by rfl, ?_⟩) (by assumption) ?_
  rotate_left
  · intro w hSw
    try dsimp only at hSw
    go_simp
    try with_reducible rfl
  try simp only [List.getElem_toArray, List.getElem_cons_succ, List.getElem_cons_zero, Act.put, List.setIfInBounds_toArray, List.set_cons_zero, List.set_cons_succ]
  refine wpAnyH_take (i := 24) (v := ?_) rfl (by kernel_rfl) (by kernel_rfl) (by kernel_rfl) (fun _ _ _ h => h) (Or.inl ⟨by rfl, ?_⟩) (by assumption) ?_
  rotate_left
  · intro w hSw
    try dsimp only at hSw
    go_simp
    try with_reducible rfl
  try simp only [List.getElem_toArray, List.getElem_cons_succ, List.getElem_cons_zero, Act.put, List.setIfInBounds_toArray, List.set_cons_zero, List.set_cons_succ]
  refine wpAnyH_take (i := 25) (v := ?_) rfl (by kernel_rfl) (by kernel_rfl) (by kernel_rfl) (fun _ _ _ h => h) (Or.inl ⟨by rfl, ?_⟩) (by assumption) ?_
  rotate_left
  · intro w hSw
    try dsimp only at hSw
    go_simp
    try with_reducible rfl
  try simp only [List.getElem_toArray, List.getElem_cons_succ, List.getElem_cons_zero, Act.put, List.setIfInBounds_toArray, List.set_cons_zero, List.set_cons_succ]
  refine wpAnyH_take (i := 26) (v := ?_) rfl (by kernel_rfl) (by kernel_rfl) (by kernel_rfl) (fun _ _ _ h => h) (Or.inl ⟨by rfl, ?_⟩) (by assumption) ?_
  rotate_left
  · intro w hSw
    try dsimp only at hSw
    go_simp
    try with_reducible rfl
  try simp only [List.getElem_toArray, List.getElem_cons_succ, List.getElem_cons_zero, Act.put, List.setIfInBounds_toArray, List.set_cons_zero, List.set_cons_succ]
  refine wpAnyH_take (i := 27) (v := ?_) rfl (by kernel_rfl) (by kernel_rfl) (by kernel_rfl) (fun _ _ _ h => h) (Or.inl ⟨by rfl, ?_⟩) (by assumption) ?_
  rotate_left
  · intro w hSw
    try dsimp only at hSw
    go_simp
    try with_reducible rfl
  try simp only [List.getElem_toArray, List.getElem_cons_succ, List.getElem_cons_zero, Act.put, List.setIfInBounds_toArray, List.set_cons_zero, List.set_cons_succ]
  refine wpAnyH_take (i := 28) (v := ?_) rfl (by kernel_rfl) (by kernel_rfl) (by kernel_rfl) (fun _ _ _ h => h) (Or.inl ⟨by rfl, ?_⟩) (by assumption) ?_
  rotate_left
  · intro w hSw
    try dsimp only at hSw
    go_simp
    try with_reducible rfl
  try simp only [List.getElem_toArray, List.getElem_cons_succ, List.getElem_cons_zero, Act.put, List.setIfInBounds_toArray, List.set_cons_zero, List.set_cons_succ]
  refine wpAnyH_take (i := 30) (v := ?_) rfl (by kernel_rfl) (by kernel_rfl) (by kernel_rfl) (fun _ _ _ h => h) (Or.inl ⟨by rfl, ?_⟩) (by assumption) ?_
  rotate_left
  · intro w hSw
    try dsimp only at hSw
    go_simp
    try with_reducible rfl
  try simp only [List.getElem_toArray, List.getElem_cons_succ, List.getElem_cons_zero, Act.put, List.setIfInBounds_toArray, List.set_cons_zero, List.set_cons_succ]
  refine wpAnyH_take (i := 29) (v := ?_) rfl (by kernel_rfl) (by kernel_rfl) (by kernel_rfl) (fun _ _ _ h => h) (Or.inl ⟨by rfl, ?_⟩) (by assumption) ?_
  rotate_left
  · intro w hSw
    try dsimp only at hSw
    obtain ⟨⟨q0, q1, q2, q3⟩, ⟨p0, p1, p2, p3⟩, r0, r1⟩ := hSw
    go_simp
    try with_reducible rfl
  try simp only [List.getElem_toArray, List.getElem_cons_succ, List.getElem_cons_zero, Act.put, List.setIfInBounds_toArray, List.set_cons_zero, List.set_cons_succ]
  refine wpAnyH_take (i := 31) (v := ?_) rfl (by kernel_rfl) (by kernel_rfl) (by kernel_rfl) (fun _ _ _ h => h) (Or.inl ⟨by rfl, ?_⟩) (by assumption) ?_
  rotate_left
  · intro w hSw
    try dsimp only at hSw
    go_simp
    try with_reducible rfl
  try simp only [List.getElem_toArray, List.getElem_cons_succ, List.getElem_cons_zero, Act.put, List.setIfInBounds_toArray, List.set_cons_zero, List.set_cons_succ]
  refine wpAnyH_take (i := 32) (v := ?_) rfl (by kernel_rfl) (by kernel_rfl) (by kernel_rfl) (fun _ _ _ h => h) (Or.inl ⟨by rfl, ?_⟩) (by assumption) ?_
  rotate_left
  · intro w hSw
    try dsimp only at hSw
    go_simp
    try with_reducible rfl
  try simp only [List.getElem_toArray, List.getElem_cons_succ, List.getElem_cons_zero, Act.put, List.setIfInBounds_toArray, List.set_cons_zero, List.set_cons_succ]
  refine wpAnyH_take (i := 33) (v := ?_) rfl (by kernel_rfl) (by kernel_rfl) (by kernel_rfl) (fun _ _ _ h => h) (Or.inl ⟨by rfl, ?_⟩) (by assumption) ?_
  rotate_left
  · intro w hSw
    try dsimp only at hSw
    go_simp
    try with_reducible rfl
  try simp only [List.getElem_toArray, List.getElem_cons_succ, List.getElem_cons_zero, Act.put, List.setIfInBounds_toArray, List.set_cons_zero, List.set_cons_succ]
  refine wpAnyH_take (i := 34) (v := ?_) rfl (by kernel_rfl) (by kernel_rfl) (by kernel_rfl) (fun _ _ _ h => h) (Or.inl ⟨by rfl, ?_⟩) (by assumption) ?_
  rotate_left
  · intro w hSw
    try dsimp only at hSw
    go_simp
    try with_reducible rfl
  try simp only [List.getElem_toArray, List.getElem_cons_succ, List.getElem_cons_zero, Act.put, List.setIfInBounds_toArray, List.set_cons_zero, List.set_cons_succ]
  refine wpAnyH_take (i := 35) (v := ?_) rfl (by kernel_rfl) (by kernel_rfl) (by kernel_rfl) (fun _ _ _ h => h) (Or.inl ⟨by rfl, ?_⟩) (by assumption) ?_
  rotate_left
  · intro w hSw
    try dsimp only at hSw
    go_simp
    try with_reducible rfl
  try simp only [List.getElem_toArray, List.getElem_cons_succ, List.getElem_cons_zero, Act.put, List.setIfInBounds_toArray, List.set_cons_zero, List.set_cons_succ]
  refine wpAnyH_ready (rs := [36]) (by kernel_rfl) (by simp) ?_
  refine AllReadyH.cons rfl (fun Kc hKc => ?_) AllReadyH.nil
  go_simp
  refine (S4.out w4 _ (A3.out.same J4.out)).mono ?_
  rintro e w5 ⟨⟨a5, c5, rfl⟩, MM⟩
  have J5 := Lib.hid (J4.out.same MM)
  clear MM
  go_wp2_with fail
  refine hKc.out _ _ (by (try dsimp only); first | exact HK.out _ ((Mod.refl (fun _ => False) w3).drew) | exact HK.out _ J4.out | exact HK.out _ J5.out | assumption) (fun hHeld => ?_)
  clear hKc Kc
  try simp only [List.getElem_toArray, List.getElem_cons_succ, List.getElem_cons_zero, Act.put, List.setIfInBounds_toArray, List.set_cons_zero, List.set_cons_succ]
  refine wpAnyH_take (i := 37) (v := ?_) rfl (by kernel_rfl) (by kernel_rfl) (by kernel_rfl) (fun _ _ _ h => h) (Or.inl ⟨by rfl, ?_⟩) (by assumption) ?_
  rotate_left
  · intro w hSw
    try dsimp only at hSw
    go_simp
    try with_reducible rfl
  try simp only [List.getElem_toArray, List.getElem_cons_succ, List.getElem_cons_zero, Act.put, List.setIfInBounds_toArray, List.set_cons_zero, List.set_cons_succ]
  refine wpAnyH_take (i := 38) (v := ?_) rfl (by kernel_rfl) (by kernel_rfl) (by kernel_rfl) (fun _ _ _ h => h) (Or.inl ⟨by rfl, ?_⟩) (by assumption) ?_
  rotate_left
  · intro w hSw
    try dsimp only at hSw
    go_simp
    try with_reducible rfl
  try simp only [List.getElem_toArray, List.getElem_cons_succ, List.getElem_cons_zero, Act.put, List.setIfInBounds_toArray, List.set_cons_zero, List.set_cons_succ]
  refine wpAnyH_take (i := 39) (v := ?_) rfl (by kernel_rfl) (by kernel_rfl) (by kernel_rfl) (fun _ _ _ h => h) (Or.inl ⟨by rfl, ?_⟩) (by assumption) ?_
  rotate_left
  · intro w hSw
    try dsimp only at hSw
    go_simp
    try with_reducible rfl
  try simp only [List.getElem_toArray, List.getElem_cons_succ, List.getElem_cons_zero, Act.put, List.setIfInBounds_toArray, List.set_cons_zero, List.set_cons_succ]
  refine wpAnyH_take (i := 40) (v := ?_) rfl (by kernel_rfl) (by kernel_rfl) (by kernel_rfl) (fun _ _ _ h => h) (Or.inl ⟨by rfl, ?_⟩) (by assumption) ?_
  rotate_left
  · intro w hSw
    try dsimp only at hSw
    go_simp
    try with_reducible rfl
  try simp only [List.getElem_toArray, List.getElem_cons_succ, List.getElem_cons_zero, Act.put, List.setIfInBounds_toArray, List.set_cons_zero, List.set_cons_succ]
  refine wpAnyH_done (by kernel_rfl) ?_ _
  go_wp2
  exact HR.out _ _ ⟨rfl, K3.out.same J5.out⟩
end Go.Proofs.YthkcdoneghcglaaDoor
