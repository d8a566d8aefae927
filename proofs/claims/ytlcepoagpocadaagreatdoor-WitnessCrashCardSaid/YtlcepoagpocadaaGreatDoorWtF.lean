import Derived.Test.YtlcepoagpocadaaGreatDoorMgTa
import Derived.Test.YtlcepoagpocadaaGreatDoorMgS
import Derived.Test.YtlcepoagpocadaaGreatDoorWtD
import Derived.Test.YtlcepoagpocadaaGreatDoorMfH
import Derived.BigRegion
set_option linter.unusedSimpArgs false
set_option linter.unusedVariables false
set_option maxRecDepth 100000
/- A witness begins anew. -/
namespace Go.Proofs.YtlcepoagpocadaaGreatDoor
open Go Go.RowKit
theorem Mod.put {x i : Nat} {v : Value} {w w' : World} (M : Mod (fun j => j = x) w w') : Mod (fun j => j = x) w (w'.setCell ⟨x, i, none⟩ v) := M.setCell (p := ⟨x, i, none⟩) (fun _ => rfl) v
set_option maxHeartbeats 8000000 in
theorem anew_any {K : Nat → Prop} {w : World} {x m : Nat} {S : MS} (sl sz c2 c3 c4 c5 c6 c7 : Value) (hx : Blk w x #[sl, sz, c2, c3, c4, c5, c6, c7]) (h : Md Tryz.prog K w m S) (G : Good S) (W : Wf S) (hKx : K x) (gen : Int) :
    Calls Tryz.prog 35 #[bp x, bp m, .int .i64 gen] w fun e w' => ∃ mp ma P f, e = .returned (.tuple #[]) ∧ Blk w' x #[sl, sz, bp m, .bool false, .int .i64 gen, bp mp, bp ma, .slice none 0 0] ∧ Iso S P f ∧ Wf P ∧ Good P ∧ Md Tryz.prog (fun i => i < w.heap.size) w' mp P ∧ Md Tryz.prog (fun i => K i ∨ (w.heap.size ≤ i ∧ i < w'.heap.size)) w' m S ∧ Mod (fun i => i = x) w w' := by
  refine opq fun R HR => ?_
  have HX0 := Lib.hid hx
  have HM0 := Lib.hid h
  have HG := Lib.hid G
  have HW := Lib.hid W
  have HKx := Lib.hid hKx
  clear hx h
  unfold bp at *
  go_enter Tryz.func35, Tryz.ntmps35
  go_wp2_with fail
  refine (copy_any HM0.out HW.out HG.out).mono ?_
  rintro e w1 ⟨mp, P, f, rfl, hI, hWP, hGP, hmp, M⟩
  have HM1 := Lib.hid (HM0.out.same M)
  have HP1 := Lib.hid hmp
  have HI := Lib.hid (show Iso S P f ∧ Wf P ∧ Good P from ⟨hI, hWP, hGP⟩)
  have N1 := Lib.hid (show Same w w1 from M)
  clear hI hWP hGP hmp M
  unfold bp at *
  go_wp2_with fail
  refine (copy_any HM1.out HW.out HG.out).mono ?_
  rintro e w2 ⟨ma, A, fa, rfl, -, -, -, -, M⟩
  have N2 := Lib.hid (show Same w w2 from N1.out.same M)
  have HP2 := Lib.hid (HP1.out.same M)
  have HX2 := Lib.hid (HX0.out.mod N2.out (fun q => q))
  have f2 := HX2.out.free 2
  have f5 := HX2.out.free 5
  have f6 := HX2.out.free 6
  have f7 := HX2.out.free 7
  have f3 := HX2.out.free 3
  have f4 := HX2.out.free 4
  have e2 := HX2.out.at_ (i := 2) _ rfl
  have e3 := HX2.out.at_ (i := 3) _ rfl
  have e4 := HX2.out.at_ (i := 4) _ rfl
  have e5 := HX2.out.at_ (i := 5) _ rfl
  have e6 := HX2.out.at_ (i := 6) _ rfl
  have e7 := HX2.out.at_ (i := 7) _ rfl
  have hl := HX2.out.lt
  clear M HP1 N1 HM1
  unfold bp at *
  go_upto_region 1 with fail
  obtain ⟨w3, hw3⟩ : ∃ z, ((w2.setCell ⟨x, 2, none⟩ (.pointer (some ⟨m, 0, none⟩))).setCell ⟨x, 5, none⟩ (.pointer (some ⟨mp, 0, none⟩))).setCell ⟨x, 6, none⟩ (.pointer (some ⟨ma, 0, none⟩)) = z := ⟨_, rfl⟩
  rw [hw3]
  have HX3 := Lib.hid (show Blk w3 x #[sl, sz, bp m, c3, c4, bp mp, bp ma, c7] by
    rw [← hw3]
    have h := ((HX2.out.set 2 (.pointer (some ⟨m, 0, none⟩))).set 5 (.pointer (some ⟨mp, 0, none⟩))).set 6 (.pointer (some ⟨ma, 0, none⟩))
    simp at h
    exact h)
  have N3 := Lib.hid (show Mod (fun i => i = x) w2 w3 by
    rw [← hw3]
    exact (((Mod.refl _ _).put).put).put)
  clear hw3 e2 e3 e4 e5 e6 e7 f2 f3 f4 f5 f6 f7 hl
  have e3 := HX3.out.at_ (i := 3) _ rfl
  have f3 := HX3.out.free 3
  have e4 := HX3.out.at_ (i := 4) _ rfl
  have f4 := HX3.out.free 4
  have e7 := HX3.out.at_ (i := 7) _ rfl
  have f7 := HX3.out.free 7
  have hl := HX3.out.lt
  unfold bp at *
  go_wp2
  go_end0
  obtain ⟨w4, hw4⟩ : ∃ z, ((w3.setCell ⟨x, 7, none⟩ (.slice none 0 0)).setCell ⟨x, 3, none⟩ (.bool false)).setCell ⟨x, 4, none⟩ (.int .i64 gen) = z := ⟨_, rfl⟩
  rw [hw4]
  have HX4 := Lib.hid (show Blk w4 x #[sl, sz, bp m, .bool false, .int .i64 gen, bp mp, bp ma, .slice none 0 0] by
    rw [← hw4]
    have h := ((HX3.out.set 7 (.slice none 0 0)).set 3 (.bool false)).set 4 (.int .i64 gen)
    simp at h
    exact h)
  have N4 := Lib.hid (show Mod (fun i => i = x) w2 w4 by
    rw [← hw4]
    exact ((N3.out.put).put).put)
  have hxl := HX0.out.lt
  have N04 := Lib.hid (show Mod (fun i => i = x) w w4 from (N2.out.mono (fun _ _ q => q.elim)).then_ N4.out (fun i _ q => q))
  exact HR.out _ _ ⟨mp, ma, P, f, rfl, HX4.out, HI.out.1, HI.out.2.1, HI.out.2.2, HP2.out.mod N4.out (fun b _ q => by rw [q]; exact hxl), HM0.out.moreN N04.out (fun b _ q => by rw [q]; exact HKx.out), N04.out⟩
end Go.Proofs.YtlcepoagpocadaaGreatDoor
set_option maxRecDepth 100000
/- What was told of all volumes is what they read then. -/
namespace Go.Proofs.YtlcepoagpocadaaGreatDoor
open Go Go.RowKit
theorem flat_take (d : List UInt8) (n : Nat) : flat16 (fun j => (d.drop (j * 16)).take 16) n = d.take (n * 16) := by
  induction n with
  | zero => simp [flat16]
  | succ n ih =>
    rw [flat_succ, ih, Nat.add_mul, Nat.one_mul, List.take_add]
theorem flat_text (d : List UInt8) (n : Nat) (h : d.length = n * 16) : flat16 (fun j => (d.drop (j * 16)).take 16) n = d := by
  rw [flat_take, List.take_of_length_le (by omega)]
section
variable {S : MS} {D : List (List UInt8)} {sec : Nat → List (List UInt8)}
theorem told_at (hl : D.length = S.vols.length) {v : Vo} {i : Nat} (hi : S.vols[i]? = some v) {d : List UInt8} (hd : D[i]? = some d) {p : Nat} (hp : p < v.size.toNat) : (getL (p : Int) v.pl, toldL S.k d p) ∈ tellA S.k (S.vols.zip D) :=
  tellA_mem (i := i) (x := (v, d)) (by rw [List.getElem?_zip_eq_some]; exact ⟨hi, hd⟩) hp
theorem told_sec (k : Nat) (d : List UInt8) (p i : Nat) (h : i < k) : (toldL k d p)[i]? = some ((d.drop ((p * k + i) * 16)).take 16) := by
  unfold toldL
  rw [List.getElem?_map, List.getElem?_range h]
  rfl
theorem dump_told (G : Good S) (f : FitD S D) (h : ∀ v ∈ S.vols, ∀ y ∈ v.pl, (some y.2, sec y.2) ∈ tellA S.k (S.vols.zip D)) : dumpS { S with sec := sec } = D := by
  have hk := G.k1
  obtain ⟨hl, hz, hF⟩ := f
  rw [dump_flat]
  apply List.ext_getElem?
  intro i
  rw [List.getElem?_map]
  cases hv : S.vols[i]? with
  | none =>
    have h1 := List.getElem?_eq_none_iff.1 hv
    rw [List.getElem?_eq_none (by omega)]
    rfl
  | some v =>
    have hi : i < S.vols.length := (List.getElem?_eq_some_iff.1 hv).1
    have hvm := List.mem_of_getElem? hv
    obtain ⟨d, hd⟩ : ∃ d, D[i]? = some d := ⟨_, List.getElem?_eq_getElem (by omega)⟩
    rw [hd]
    have hdl : d.length = v.size.toNat * S.k * 16 := hz (v, d) (List.mem_of_getElem? (by rw [List.getElem?_zip_eq_some]; exact ⟨hv, hd⟩))
    show some (flat16 (secS { S with sec := sec } v) (v.size.toNat * S.k)) = some d
    congr 1
    refine Eq.trans (flat_congr _ (fun j hj => ?_)) (flat_text d _ hdl)
    have hp : j / S.k < v.size.toNat := Nat.div_lt_of_lt_mul (by rw [Nat.mul_comm]; exact hj)
    have hm : j % S.k < S.k := Nat.mod_lt _ (by omega)
    have hT := told_at hl hv hd hp
    have hx := told_sec S.k d (j / S.k) (j % S.k) hm
    rw [Nat.div_add_mod'] at hx
    unfold secS
    show (match getL ((j / S.k : Nat) : Int) v.pl with | some c => (sec c).getD (j % S.k) [] | none => zero16) = _
    cases hg : getL ((j / S.k : Nat) : Int) v.pl with
    | none =>
      rw [hg] at hT
      have := hF.zero _ hT
      rw [List.all_eq_true] at this
      have h2 := this _ (List.mem_of_getElem? hx)
      dsimp only
      exact (by simpa using h2 : _ = zero16).symm
    | some c =>
      rw [hg] at hT
      have := hF.one c _ _ hT (h v hvm _ (getL_mem hg))
      dsimp only at this ⊢
      rw [← this, List.getD_eq_getElem?_getD, hx]
      rfl
theorem good_told (G : Good S) (f : FitD S D) (h : ∀ v ∈ S.vols, ∀ y ∈ v.pl, (some y.2, sec y.2) ∈ tellA S.k (S.vols.zip D)) : Good { S with sec := sec } := by
  obtain ⟨hl, hz, hF⟩ := f
  refine ⟨G.k1, G.k8, G.ids, G.sizes, G.rise, G.keys, fun v hv y hy => ?_⟩
  have h1 := h v hv y hy
  unfold tellA at h1
  obtain ⟨z, hzm, h2⟩ := List.mem_flatMap.1 h1
  unfold tellV at h2
  obtain ⟨p, hp, h3⟩ := List.mem_map.1 h2
  have hp := List.mem_range.1 hp
  injection h3 with _ h3
  show (sec y.2).length = S.k ∧ ∀ s ∈ sec y.2, s.length = 16
  rw [← h3]
  refine ⟨toldL_len _ _ _, fun s hs => ?_⟩
  unfold toldL at hs
  obtain ⟨i, hi, rfl⟩ := List.mem_map.1 hs
  have hi := List.mem_range.1 hi
  have hlen := hz z hzm
  have h4 : p * S.k + S.k ≤ z.1.size.toNat * S.k := by
    have := Nat.mul_le_mul_right S.k (show p + 1 ≤ z.1.size.toNat by omega)
    rw [Nat.add_mul, Nat.one_mul] at this
    exact this
  rw [List.length_take, List.length_drop, hlen]
  omega
end
end Go.Proofs.YtlcepoagpocadaaGreatDoor
set_option maxRecDepth 100000
/- The model that was committed. -/
namespace Go.Proofs.YtlcepoagpocadaaGreatDoor
open Go Go.RowKit
set_option maxHeartbeats 4000000 in
theorem base_now {w : World} {x : Nat} (c0 c1 c2 c3 c5 c6 c7 : Value) (g : Int) (hx : Blk w x #[c0, c1, c2, c3, .int .i64 g, c5, c6, c7]) :
    Calls Tryz.prog 102 #[bp x, .int .i64 g] w fun e w' => e = .returned (.tuple #[c5, c7]) ∧ Same w w' := by
  refine opq fun R HR => ?_
  have e4 := hx.at_ (i := 4) _ rfl
  have e5 := hx.at_ (i := 5) _ rfl
  have e7 := hx.at_ (i := 7) _ rfl
  have hb : ((g : Int) == g) = true := by simp
  unfold bp at *
  clear hx
  go_enter Tryz.func102, Tryz.ntmps102
  go_wp2_with fail
  go_region
  go_wp2_with fail
  exact HR.out _ _ ⟨rfl, (Mod.refl _ _).drew⟩
set_option maxHeartbeats 4000000 in
theorem base_no {w : World} {x : Nat} (c0 c1 c2 c3 c5 c6 c7 : Value) (g g' : Int) (hg0 : 0 ≤ g) (hg1 : g ≤ 1000000) (h1 : g' ≠ g) (h2 : g' ≠ g + 1) (hx : Blk w x #[c0, c1, c2, c3, .int .i64 g, c5, c6, c7]) :
    Calls Tryz.prog 102 #[bp x, .int .i64 g'] w fun e w' => e = .returned (.tuple #[.pointer none, .slice none 0 0]) ∧ Same w w' := by
  refine opq fun R HR => ?_
  have e4 := hx.at_ (i := 4) _ rfl
  have hb : ((g' : Int) == g) = false := by simpa using h1
  have hb2 : ((g' : Int) == g + 1) = false := by simpa using h2
  have hwr : IntKind.i64.wrap (g + 1) = g + 1 := IntWalk.i64_in _ (by omega)
  unfold bp at *
  clear hx
  go_enter Tryz.func102, Tryz.ntmps102
  go_wp2_with fail
  exact HR.out _ _ ⟨rfl, Mod.refl _ _⟩
/-- An event: its order, its answer, how often all was committed, what is read behind a loss of power. -/
structure Ev where
  o : OW
  er : Int
  d : List UInt8
  vols : List Vo
  gen : Int
  dump : List (List UInt8)
/-- What a witness knows. -/
structure WS where
  now : MS
  past : MS
  gen : Int
  since : List OW
def evC (o : OW) (er : Int) (d : List UInt8) (vv : Value) (gen : Int) (dv : Value) : Array Value := #[ordW o, .int .i64 er, .string ⟨d.toArray⟩, vv, .int .i64 gen, dv]
/-- A witness in memory: what is older than B is the caller's. -/
structure WtP (B : Nat) (w : World) (x : Nat) (sl sz : Int) (s : WS) (mn mp ma : Nat) (sv : Value) (Kn Kp : Nat → Prop) : Prop where
  blk : Blk w x #[.int .i64 sl, .int .i64 sz, bp mn, .bool false, .int .i64 s.gen, bp mp, bp ma, sv]
  now : Md Tryz.prog Kn w mn s.now
  past : Md Tryz.prog Kp w mp s.past
  row : w.ownsRow B 27 1 sv s.since.length (s.since.map ordW)
  kB : ∀ i, i < B → Kn i ∧ Kp i
  kx : Kn x ∧ Kp x
  ks : ∀ g, sv.ownBlock = some g → Kn g ∧ Kp g ∧ g ≠ x
  kd : ∀ b, b < w.heap.size → Kn b ∨ Kp b
  xB : B ≤ x
/-- What is right of a witness's state. -/
structure WOk (s : WS) : Prop where
  gn : Good s.now
  wn : Wf s.now
  gp : Good s.past
  wp : Wf s.past
  g0 : 0 ≤ s.gen
  g1 : s.gen ≤ 1000
  os : ∀ o ∈ s.since, OkO o
  ol : s.since.length ≤ 10000
def Wt (B : Nat) (w : World) (x : Nat) (sl sz : Int) (s : WS) : Prop := WOk s ∧ ∃ mn mp ma sv Kn Kp, WtP B w x sl sz s mn mp ma sv Kn Kp
/-- Whether a loss of power may be told so. -/
structure CrashOk (s : WS) (ev : Ev) : Prop where
  gen : ev.gen = s.gen
  er : ev.er = 0
  d : ev.d = []
  vols : ev.vols.map infoV = s.past.vols.map infoV
  len : ev.dump.length = s.past.vols.length
  ok : ∀ (i : Nat) (v : Vo) (p d : List UInt8), ev.vols[i]? = some v → (dumpS s.past)[i]? = some p → ev.dump[i]? = some d → soundL v.id p d s.since = true
/-- What is behind a loss of power. -/
def CrashR (s : WS) (ev : Ev) (r : Option WS) : Prop :=
  (¬ CrashOk s ev ∧ r = none) ∨ (CrashOk s ev ∧ ∃ C f, Iso s.past C f ∧ Good C ∧ Wf C ∧ ((¬ FitD C ev.dump ∧ r = none) ∨
    (FitD C ev.dump ∧ ∃ sec Q f2, (∀ v ∈ C.vols, ∀ y ∈ v.pl, (some y.2, sec y.2) ∈ tellA C.k (C.vols.zip ev.dump)) ∧ Iso { C with sec := sec } Q f2 ∧ r = some ⟨{ C with sec := sec }, Q, ev.gen, []⟩)))
end Go.Proofs.YtlcepoagpocadaaGreatDoor
