import Derived.Test.YtlcepoagpocadaaGreatDoorMgC
set_option linter.unusedSimpArgs false
set_option linter.unusedVariables false
/- A copy under way: the steps that change it. -/
namespace Go.Proofs.YtlcepoagpocadaaGreatDoor
open Go Go.RowKit
theorem ChO.new {H : Nat → Ob} {k : Nat} {sec : Nat → List (List UInt8)} {ow : Nat → Int} {c d : Nat} (h : ChO H k sec ow c) (hd : H d = .no) (xs : List (List UInt8)) (n : Int) : ChO H k (upd sec d xs) (upd ow d n) c := by
  obtain ⟨g, cap, h1, h2⟩ := h
  have hne : c ≠ d := fun e => by rw [e, hd] at h1; cases h1
  exact ⟨g, cap, by rw [upd_ne _ _ hne]; exact h1, by rw [upd_ne _ _ hne]; exact h2⟩
theorem ChO.more {H : Nat → Ob} {k : Nat} {sec : Nat → List (List UInt8)} {ow : Nat → Int} {c b : Nat} (h : ChO H k sec ow c) (hb : H b = .no) (o : Ob) : ChO (upd H b o) k sec ow c := by
  obtain ⟨g, cap, h1, h2⟩ := h
  have n1 : c ≠ b := fun e => by rw [e, hb] at h1; cases h1
  have n2 : g ≠ b := fun e => by rw [e, hb] at h2; cases h2
  exact ⟨g, cap, by rw [upd_ne _ _ n1]; exact h1, by rw [upd_ne _ _ n2]; exact h2⟩
theorem Abs.new {H : Nat → Ob} {m vm : Nat} {S : MS} {ow : Nat → Int} (A : Abs H m vm S ow) {d : Nat} (hd : H d = .no) (xs : List (List UInt8)) (n : Int) : Abs H m vm { S with sec := upd S.sec d xs } (upd ow d n) :=
  ⟨A.hm, A.hv, A.hb, A.hp, fun v hv x hx => (A.hc v hv x hx).new hd xs n, A.nd⟩
def encA (A : List (Nat × Nat)) : List (Option Nat × Value) := A.map fun x => (some x.1, bp x.2)
theorem mem_encA {A : List (Nat × Nat)} {q : Option Nat} {u : Value} : (q, u) ∈ encA A ↔ ∃ x ∈ A, q = some x.1 ∧ u = bp x.2 := by
  unfold encA
  rw [List.mem_map]
  exact ⟨fun ⟨x, hx, e⟩ => ⟨x, hx, (congrArg Prod.fst e).symm, (congrArg Prod.snd e).symm⟩, fun ⟨x, hx, e1, e2⟩ => ⟨x, hx, by rw [e1, e2]⟩⟩
structure CpS (S : MS) (ow : Nat → Int) (B : Nat) (w : World) (m2 vm2 ab : Nat) (H : Nat → Ob) (T : MS) (ow2 : Nat → Int) (A : List (Nat × Nat)) : Prop where
  hH : Holds Tryz.prog w H
  old : ∀ b, H b ≠ .no → B ≤ b
  abs : Abs H m2 vm2 T ow2
  k : T.k = S.k
  ag : PM w ab (encA A)
  hab : H ab = .no
  ab0 : B ≤ ab
  ch : ∀ x ∈ A, ChO H S.k T.sec ow2 x.2 ∧ T.sec x.2 = S.sec x.1 ∧ ow2 x.2 = ow x.1
  inj : ∀ x ∈ A, ∀ y ∈ A, x.2 = y.2 → x.1 = y.1
  src : ∀ x ∈ A, ∃ v ∈ S.vols, ∃ y ∈ v.pl, y.2 = x.1
section
variable {S : MS} {ow : Nat → Int} {B : Nat} {w w' : World} {m2 vm2 ab : Nat} {H : Nat → Ob} {T : MS} {ow2 : Nat → Int} {A : List (Nat × Nat)}
theorem CpS.mod {Q : Nat → Prop} (h : CpS S ow B w m2 vm2 ab H T ow2 A) (M : Mod Q w w') (hQ : ∀ b, Q b → H b = .no ∧ b ≠ ab) : CpS S ow B w' m2 vm2 ab H T ow2 A :=
  ⟨h.hH.mod M (fun b q => (hQ b q).1), h.old, h.abs, h.k, h.ag.mod M (fun q => (hQ ab q).2 rfl), h.hab, h.ab0, h.ch, h.inj, h.src⟩
theorem CpS.same (h : CpS S ow B w m2 vm2 ab H T ow2 A) (M : Same w w') : CpS S ow B w' m2 vm2 ab H T ow2 A := h.mod M (fun _ q => q.elim)
theorem CpS.keys (h : CpS S ow B w m2 vm2 ab H T ow2 A) : (A.map (·.1)).Nodup := by
  have := h.ag.nd
  unfold encA at this
  rw [List.map_map] at this
  have e : A.map ((fun x : Option Nat × Value => x.1) ∘ fun x : Nat × Nat => (some x.1, bp x.2)) = (A.map (·.1)).map some := by rw [List.map_map]; rfl
  rw [e] at this
  exact (List.pairwise_map.1 this).imp (fun q r => q (by rw [r]))
theorem CpS.not_c {c : Nat} (h : CpS S ow B w m2 vm2 ab H T ow2 A) (hn : ∀ x ∈ A, x.1 ≠ c) : ∀ x ∈ encA A, x.1 ≠ some c := fun x hx e => by
  obtain ⟨y, hy, e1, _⟩ := mem_encA.1 (show (x.1, x.2) ∈ encA A from hx)
  rw [e1] at e
  exact hn y hy (Option.some.inj e)
/-- A chunk more. -/
theorem CpS.chunk {w1 : World} (h : CpS S ow B w m2 vm2 ab H T ow2 A) {c g d cap : Nat} (M1 : Same w w1) (hg : RowV w1 g (S.sec c).length (txF (S.sec c))) (hd : Blk w1 d #[.slice (some ⟨g, 0, none⟩) S.k cap, .int .i64 (ow c)])
    (hg0 : w.heap.size ≤ g) (hd0 : w.heap.size ≤ d) (hgd : g ≠ d) (hB : B ≤ w.heap.size) (hn : ∀ x ∈ A, x.1 ≠ c) (hc : ∃ v ∈ S.vols, ∃ y ∈ v.pl, y.2 = c) (M2 : Mod (fun i => i = ab) w1 w') (ha : PM w' ab (encA A ++ [(some c, bp d)])) :
    ∃ H', CpS S ow B w' m2 vm2 ab H' { T with sec := upd T.sec d (S.sec c) } (upd ow2 d (ow c)) (A ++ [(c, d)]) ∧ (∀ b, b < w.heap.size → H' b = H b) ∧ (∀ b, H' b ≠ .no → H b ≠ .no ∨ w.heap.size ≤ b) := by
  have nog : H g = .no := h.hH.new hg0
  have nod : H d = .no := h.hH.new hd0
  have hal := h.ag.lt
  have h1 : Holds Tryz.prog w1 H := h.hH.mod M1 (fun _ q => q.elim)
  have h2 : Holds Tryz.prog w1 (upd H g (.rw d (S.sec c))) := h1.turn (Mod.refl _ _) hg
  have h3 : Holds Tryz.prog w1 (upd (upd H g (.rw d (S.sec c))) d (.cl 2 #[.slice (some ⟨g, 0, none⟩) S.k cap, .int .i64 (ow c)])) := h2.turn (Mod.refl _ _) hd
  have nod2 : upd H g (.rw d (S.sec c)) d = .no := by rw [upd_ne _ _ (fun e => hgd e.symm)]; exact nod
  have eab : upd (upd H g (.rw d (S.sec c))) d (.cl 2 #[.slice (some ⟨g, 0, none⟩) S.k cap, .int .i64 (ow c)]) ab = .no := by
    rw [upd_ne _ _ (by omega), upd_ne _ _ (by omega)]; exact h.hab
  have far : ∀ b, b < w.heap.size → upd (upd H g (.rw d (S.sec c))) d (.cl 2 #[.slice (some ⟨g, 0, none⟩) S.k cap, .int .i64 (ow c)]) b = H b := fun b hb => by
    rw [upd_ne _ _ (by omega), upd_ne _ _ (by omega)]
  have hmem : ∀ x, x ∈ A ++ [(c, d)] ↔ x ∈ A ∨ x = (c, d) := fun x => by rw [List.mem_append, List.mem_singleton]
  have hdA : ∀ x ∈ A, x.2 ≠ d := fun x hx e => by
    obtain ⟨g', cap', q1, _⟩ := (h.ch x hx).1
    rw [e, nod] at q1; cases q1
  refine ⟨_, ⟨h3.mod M2 (fun b q => by rw [q]; exact eab), fun b hb => ?_, ((h.abs.new nod (S.sec c) (ow c)).more nog).more nod2, h.k, ?_, eab, h.ab0, fun x hx => ?_, fun x hx y hy e => ?_, fun x hx => ?_⟩, far, fun b hb => ?_⟩
  · by_cases q : b < w.heap.size
    · rw [far b q] at hb; exact h.old b hb
    · omega
  · have : encA (A ++ [(c, d)]) = encA A ++ [(some c, bp d)] := by unfold encA; rw [List.map_append]; rfl
    rw [this]; exact ha
  · rcases (hmem x).1 hx with hx | rfl
    · obtain ⟨q1, q2, q3⟩ := h.ch x hx
      exact ⟨((q1.new nod _ _).more nog _).more nod2 _, by dsimp only; rw [upd_ne _ _ (hdA x hx)]; exact q2, by rw [upd_ne _ _ (hdA x hx)]; exact q3⟩
    · refine ⟨⟨g, cap, ?_, ?_⟩, by dsimp only; rw [upd_same], by dsimp only; rw [upd_same]⟩
      · dsimp only
        rw [upd_same, upd_same]
      · dsimp only
        rw [upd_ne _ _ hgd, upd_same, upd_same]
  · rcases (hmem x).1 hx with hx | rfl
    · rcases (hmem y).1 hy with hy | rfl
      · exact h.inj x hx y hy e
      · exact absurd e (hdA x hx)
    · rcases (hmem y).1 hy with hy | rfl
      · exact absurd e.symm (hdA y hy)
      · rfl
  · rcases (hmem x).1 hx with hx | rfl
    · exact h.src x hx
    · exact hc
  · by_cases q : b < w.heap.size
    · rw [far b q] at hb; exact .inl hb
    · exact .inr (by omega)
/-- A volume more. -/
theorem CpS.vol (h : CpS S ow B w m2 vm2 ab H T ow2 A) (u : Vo) (hb : Blk w u.b (volC u)) (hp : IMap Tryz.prog 3 w u.pb u.pl) (nb : H u.b = .no) (np : H u.pb = .no) (hbp : u.b ≠ u.pb) (ob : B ≤ u.b) (op : B ≤ u.pb) (eb : u.b ≠ ab) (ep : u.pb ≠ ab)
    (hpl : ∀ x ∈ u.pl, ∃ c, (c, x.2) ∈ A) (h0 : getL u.id (volsL T.vols) = none) (M : Mod (fun i => i = vm2) w w') (hv : IMap Tryz.prog 3 w' vm2 (putL u.id u.b (volsL T.vols))) :
    ∃ H', CpS S ow B w' m2 vm2 ab H' { T with vols := insV u T.vols } ow2 A ∧ (∀ b, b ≠ u.b → b ≠ u.pb → b ≠ vm2 → H' b = H b) := by
  have h1 : Holds Tryz.prog w (upd H u.b (.cl 1 (volC u))) := h.hH.turn (Mod.refl _ _) hb
  have np1 : upd H u.b (.cl 1 (volC u)) u.pb = .no := by rw [upd_ne _ _ (fun e => hbp e.symm)]; exact np
  have h2 : Holds Tryz.prog w (upd (upd H u.b (.cl 1 (volC u))) u.pb (.mp u.b u.pl)) := h1.turn (Mod.refl _ _) hp
  have A1 := (h.abs.more (o := .cl 1 (volC u)) nb).more (o := .mp u.b u.pl) np1
  have hvm := h.abs.hv
  have hvm1 : vm2 ≠ u.b := fun e => by rw [e, nb] at hvm; cases hvm
  have hvm2 : vm2 ≠ u.pb := fun e => by rw [e, np] at hvm; cases hvm
  have hva : vm2 ≠ ab := fun e => by rw [e, h.hab] at hvm; cases hvm
  have h3 := h2.turn (b := vm2) (o := .mp m2 (putL u.id u.b (volsL T.vols))) M hv
  have chk : ∀ c, ChO H S.k T.sec ow2 c → ChO (upd (upd H u.b (.cl 1 (volC u))) u.pb (.mp u.b u.pl)) S.k T.sec ow2 c := fun c q => (q.more nb _).more np1 _
  have A2 := A1.add (v := u) h0 (by rw [upd_ne _ _ hbp, upd_same]) (by rw [upd_same]) (fun x hx => by
    obtain ⟨c, hc⟩ := hpl x hx
    rw [h.k]
    exact chk _ (h.ch _ hc).1) rfl
  refine ⟨_, ⟨h3, fun b hb => ?_, A2, h.k, h.ag.mod M (fun e => hva e.symm), ?_, h.ab0, fun x hx => ?_, h.inj, h.src⟩, fun b q1 q2 q3 => ?_⟩
  · by_cases q : b = vm2
    · subst q
      exact h.old b (by rw [hvm]; simp)
    · rw [upd_ne _ _ q] at hb
      by_cases q2 : b = u.pb
      · rw [q2]; exact op
      · rw [upd_ne _ _ q2] at hb
        by_cases q3 : b = u.b
        · rw [q3]; exact ob
        · rw [upd_ne _ _ q3] at hb
          exact h.old b hb
  · rw [upd_ne _ _ (fun e => hva e.symm), upd_ne _ _ (fun e => ep e.symm), upd_ne _ _ (fun e => eb e.symm)]; exact h.hab
  · obtain ⟨q1, q2, q3⟩ := h.ch x hx
    refine ⟨(chk _ q1).far (fun i _ q => ?_), q2, q3⟩
    have : i ≠ vm2 := fun e => by
      rw [e] at q
      refine q m2 (volsL T.vols) ?_
      rw [upd_ne _ _ hvm2, upd_ne _ _ hvm1]; exact hvm
    rw [upd_ne _ _ this]
  · rw [upd_ne _ _ q3, upd_ne _ _ q2, upd_ne _ _ q1]
/-- A copy that is whole. -/
theorem CpS.done {K : Nat → Prop} (h : CpS S ow B w m2 vm2 ab H T ow2 A) (WS : Wf S) (hK : ∀ i, K i → i < B) (hBw : B ≤ w.heap.size) (h1 : ∀ u ∈ T.vols, ∃ v ∈ S.vols, CpV A v u) (h2 : ∀ v ∈ S.vols, ∃ u ∈ T.vols, CpV A v u) (ho : ∀ c, 0 < cnt S.vols c → ow c = (cnt S.vols c : Int)) :
    ∃ f, Iso S T f ∧ Wf T ∧ Md Tryz.prog K w m2 T := by
  obtain ⟨I, WT⟩ := copy_iso WS h.abs.nd h.k h.keys h.inj (fun x hx => (h.ch x hx).2.1) h1 h2
  refine ⟨_, I, WT, ow2, ⟨H, vm2, h.hH, fun b hb q => ?_, fun i q => by have := hK i q; omega, h.abs⟩, copy_owners I ho (fun c hc => ?_)⟩
  · have := h.old b hb
    have := hK b q
    omega
  · obtain ⟨v, hv, x, hx, rfl⟩ := cnt_pos.1 hc
    obtain ⟨u, _, hu⟩ := h2 v hv
    obtain ⟨d, _, hd⟩ := hu.two x hx
    have e := fA_mem h.keys hd
    dsimp only at e
    rw [e]
    exact (h.ch _ hd).2.2
end
end Go.Proofs.YtlcepoagpocadaaGreatDoor
