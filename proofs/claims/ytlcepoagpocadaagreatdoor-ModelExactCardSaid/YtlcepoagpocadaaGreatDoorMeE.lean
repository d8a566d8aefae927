import Derived.Test.YtlcepoagpocadaaGreatDoorMdK
import Derived.Maps.OwnSet
import Derived.Test.YtlcepoagpocadaaGreatDoorShelfR
import Derived.Deep.AppendLies
import Derived.Deep.RegionHeld3
set_option linter.unusedSimpArgs false
set_option linter.unusedVariables false
set_option maxRecDepth 100000
/- The model's own maps; a place's chunk is released. -/
namespace Go.Proofs.YtlcepoagpocadaaGreatDoor
open Go Go.RowKit
abbrev bp (b : Nat) : Value := .pointer (some ⟨b, 0, none⟩)
def strV (l : List UInt8) : Value := .string ⟨l.toArray⟩
def intOf : Value → Int
  | .int _ n => n
  | _ => 0
def I64 (n : Int) : Prop := (Lit.int .i64 n).wf = true
theorem I64.of {n : Int} (h : -9223372036854775808 ≤ n ∧ n ≤ 9223372036854775807) : I64 n := by
  unfold I64
  simp [Lit.wf, IntKind.min, IntKind.max, IntKind.signed, IntKind.bits]
  omega
theorem I64.bd {n : Int} (h : I64 n) : -9223372036854775808 ≤ n ∧ n ≤ 9223372036854775807 := by
  unfold I64 at h
  simp [Lit.wf, IntKind.min, IntKind.max, IntKind.signed, IntKind.bits] at h
  omega
def ptrO (o : Option Nat) : Value := .pointer (o.map fun c => ⟨c, 0, none⟩)
theorem look106 {w : World} {b : Nat} {L : List (Int × Nat)} (h : IMap Tryz.prog 3 w b L) {p : Int} (hp : I64 p) : (Instr.lookup 106 (.map (some b)) (.int .i64 p) false).run Tryz.prog w = .ok (ptrO (getL p L)) w :=
  h.look Tryz.underlying3 Tryz.underlying106 (Tryz.zeroValue123 w) p hp
theorem look109 {w : World} {b : Nat} {L : List (Int × Nat)} (h : IMap Tryz.prog 3 w b L) {p : Int} (hp : I64 p) : (Instr.lookup 109 (.map (some b)) (.int .i64 p) false).run Tryz.prog w = .ok (ptrO (getL p L)) w :=
  h.look Tryz.underlying3 Tryz.underlying109 (Tryz.zeroValue102 w) p hp
theorem key3 {p : Int} (hp : I64 p) : keyOf Tryz.prog 3 (.int .i64 p) = some (.int .i64 p) := Maps.keyOf_int_mk Tryz.underlying3 hp
theorem law3 : Maps.Keyed Tryz.prog 3 := Maps.int_keyed Tryz.underlying3
section
variable {K : Nat → Prop} {w : World} {m : Nat} {S : MS} {ow : Nat → Int} {v : Vo}
set_option maxHeartbeats 4000000 in
/-- A place's chunk is released. -/
theorem release_any (h : Mem Tryz.prog K w m S ow) (hv : v ∈ S.vols) (p : Int) (hp : I64 p) (ho : ∀ c, getL p v.pl = some c → 1 ≤ ow c ∧ ow c ≤ 1000000) :
    Calls Tryz.prog 91 #[bp v.b, .int .i64 p] w fun e w' => e = .returned (.tuple #[]) ∧ Mem Tryz.prog K w' m (putS S { v with pl := delL p v.pl }) (match getL p v.pl with | some c => upd ow c (ow c - 1) | none => ow) ∧ Mod (fun i => ¬ K i) w w' := by
  refine opq fun R HR => ?_
  obtain ⟨H, vm, hH, hK, hlt, A⟩ := h
  have hb : Blk w v.b (volC v) := by have := hH v.b; rw [A.hb v hv] at this; exact this
  have hm : IMap Tryz.prog 3 w v.pb v.pl := by have := hH v.pb; rw [A.hp v hv] at this; exact this
  have e5 := hb.at_ (i := 5) (.map (some v.pb)) rfl
  have hlk := look106 hm hp
  have HH := Lib.hid hH
  have HK := Lib.hid hK
  have HA := Lib.hid A
  have HL := Lib.hid hlt
  have HV := Lib.hid hv
  have HM := Lib.hid hm
  cases hg : getL p v.pl with
  | none =>
    rw [hg] at hlk HR
    dsimp only [ptrO, Option.map] at hlk HR
    have hdl : putS S { v with pl := delL p v.pl } = S := by
      rw [delL_id hg]
      unfold putS
      rw [show repV { v with pl := v.pl } S.vols = S.vols by
        unfold repV
        conv => rhs; rw [← List.map_id S.vols]
        apply List.map_congr_left
        intro u hu
        by_cases q : u.id = v.id
        · rw [if_pos q, pw_ne A.nd hu hv q]; rfl
        · rw [if_neg q]; rfl]
    have HD := Lib.hid hdl
    clear hH hK A hlt hv hb hm hdl ho hg
    go_enter Tryz.func91, Tryz.ntmps91
    go_wp2
    go_end0
    refine HR.out _ _ ⟨rfl, ?_, Mod.refl _ _⟩
    rw [HD.out]
    exact ⟨H, vm, HH.out, HK.out, HL.out, HA.out⟩
  | some c =>
    rw [hg] at hlk HR
    dsimp only [ptrO, Option.map] at hlk HR
    obtain ⟨g, cap, hc1, hc2⟩ := A.hc v hv _ (getL_mem hg)
    dsimp only at hc1 hc2
    have hbc : Blk w c #[.slice (some ⟨g, 0, none⟩) S.k cap, .int .i64 (ow c)] := by have := hH c; rw [hc1] at this; exact this
    have f1 := hbc.at_ (i := 1) (.int .i64 (ow c)) rfl
    have fz := hbc.free 1
    have hoc := ho c hg
    have hwr : IntKind.i64.wrap (ow c - 1) = ow c - 1 := IntWalk.i64_in _ (by omega)
    have hcp : c ≠ v.pb := ne_H (H := H) (by rw [hc1, A.hp v hv]; simp)
    have hcv : c ≠ v.b := ne_H (H := H) (by rw [hc1, A.hb v hv]; simp)
    have M1 : Mod (fun i => i = c) w (w.setCell ⟨c, 1, none⟩ (.int .i64 (ow c - 1))) := (Mod.refl (fun i => i = c) w).setCell (p := ⟨c, 1, none⟩) (fun _ => rfl) _
    have H1 := Lib.hid (hH.turn (b := c) (o := .cl 2 #[.slice (some ⟨g, 0, none⟩) S.k cap, .int .i64 (ow c - 1)]) M1 (hbc.set 1 _))
    have A1 := Lib.hid (A.owner (n := ow c - 1) hc1 rfl)
    have hm1 := Lib.hid (hm.mod M1 (fun e => hcp e.symm))
    have e5b := (M1.cell hb.lt (fun e => hcv e.symm) 5).trans e5
    have HM1 := Lib.hid M1
    have hKc : ¬ K c := hK c (by rw [hc1]; simp)
    have hKp : ¬ K v.pb := hK v.pb (by rw [A.hp v hv]; simp)
    clear hH hK A hlt hv hb hm ho hg hc1 hc2 hbc M1
    go_enter Tryz.func91, Tryz.ntmps91
    go_wp2_with (first | (at_delete; refine wpList_delete_own _ rfl _ _ 106 3 rfl 123 law3 Tryz.underlying106 ptrR v.pb v.pl.length (DM v.pl) rfl hm1.out _ _ rfl (key3 hp) ?_; intro w2 hown hturn) | go_in)
    go_end0
    refine HR.out _ _ ⟨rfl, ?_, ?_⟩
    · rw [del_enc] at hown
      have hi : IMap Tryz.prog 3 w2 v.pb (delL p v.pl) := imap_tight hown
      have hpb : upd H c (.cl 2 #[.slice (some ⟨g, 0, none⟩) S.k cap, .int .i64 (ow c - 1)]) v.pb = .mp v.b v.pl := by
        rw [upd_ne _ _ (fun e => hcp e.symm)]; exact HA.out.hp v HV.out
      have hvb : upd H c (.cl 2 #[.slice (some ⟨g, 0, none⟩) S.k cap, .int .i64 (ow c - 1)]) v.b = .cl 1 (volC v) := by
        rw [upd_ne _ _ (fun e => hcv e.symm)]; exact HA.out.hb v HV.out
      have hbp : v.b ≠ v.pb := ne_H (H := H) (by rw [HA.out.hb v HV.out, HA.out.hp v HV.out]; simp)
      refine ⟨_, vm, H1.out.turn' (b := v.pb) (o := .mp v.b (delL p v.pl)) hturn.grown (fun k hk => (Option.some.inj hk).symm) hi, fun b hb => ?_, fun i hi => ?_, A1.out.rep (v' := { v with pl := delL p v.pl }) HV.out rfl rfl rfl ?_ (upd_same _ _ _) (fun i h1 h2 => upd_ne _ _ h2) (fun x hx => A1.out.hc v HV.out x (mem_delL.1 hx).1)⟩
      · by_cases q : b = v.pb
        · rw [q]; exact hKp
        · rw [upd_ne _ _ q] at hb
          by_cases q2 : b = c
          · rw [q2]; exact hKc
          · rw [upd_ne _ _ q2] at hb; exact HK.out b hb
      · exact Nat.lt_of_lt_of_le (HL.out i hi) (Nat.le_trans HM1.out.size hturn.grown.size)
      · rw [upd_ne _ _ hbp]; exact hvb
    · refine (HM1.out.mono (fun i _ q => ?_)).grown hturn.grown (fun k hk _ => ?_)
      · rw [q]; exact hKc
      · rw [← Option.some.inj hk]; exact hKp
end
end Go.Proofs.YtlcepoagpocadaaGreatDoor
set_option maxRecDepth 100000
/- A sector of zeros; a sector of a volume. -/
namespace Go.Proofs.YtlcepoagpocadaaGreatDoor
open Go Go.RowKit
theorem zero_any (w : World) : Calls Tryz.prog 83 #[] w fun e w' => e = .returned (strV zero16) ∧ Same w w' := by
  refine opq fun R HR => ?_
  go_enter Tryz.func83, Tryz.ntmps83
  go_wp2_with fail
  refine (Tryz.strings_Repeat ⟨#[0]⟩ 16 w (by decide) (by decide)).mono ?_
  rintro e w1 ⟨rfl, hb⟩
  have M := Lib.hid (Same.of_below hb)
  have hz : (⟨(Lib.repeatL (⟨#[0]⟩ : ByteArray).data.toList 16).toArray⟩ : ByteArray) = ⟨zero16.toArray⟩ := by decide
  clear hb
  rw [hz]
  go_wp2
  exact HR.out _ _ ⟨rfl, M.out⟩
section
variable {K : Nat → Prop} {w : World} {m : Nat} {S : MS} {ow : Nat → Int} {v : Vo}
set_option maxHeartbeats 4000000 in
/-- A sector of a volume. -/
theorem sector_any (h : Mem Tryz.prog K w m S ow) (hv : v ∈ S.vols) (x : Nat) (hx : x ≤ 1000000) (hk : 1 ≤ S.k ∧ S.k ≤ 8) (hs : ∀ c, getL ((x / S.k : Nat) : Int) v.pl = some c → (S.sec c).length = S.k) :
    Calls Tryz.prog 39 #[bp m, bp v.b, .int .i64 (x : Int)] w fun e w' => e = .returned (strV (secS S v x)) ∧ Same w w' := by
  refine opq fun R HR => ?_
  obtain ⟨H, vm, hH, hK, hlt, A⟩ := h
  have hb : Blk w v.b (volC v) := by have := hH v.b; rw [A.hb v hv] at this; exact this
  have hmb : Blk w m #[.int .i64 (S.k : Int), .map (some vm)] := by have := hH m; rw [A.hm] at this; exact this
  have hm : IMap Tryz.prog 3 w v.pb v.pl := by have := hH v.pb; rw [A.hp v hv] at this; exact this
  have e5 := hb.at_ (i := 5) (.map (some v.pb)) rfl
  have k0 := hmb.at_ (i := 0) (.int .i64 (S.k : Int)) rfl
  obtain ⟨k, hkk⟩ : ∃ k, S.k = k := ⟨_, rfl⟩
  have hdx := Nat.div_le_self x S.k
  have hlk := fun n => look106 (hm.mod ((Mod.refl (fun _ => False) w).drewN n) (fun q => q)) (p := ((x / S.k : Nat) : Int)) (I64.of (by generalize x / S.k = q at *; omega))
  unfold secS at HR
  rw [hkk] at hk k0 hlk HR hs hdx
  have hk0 : ¬ (k : Int) = 0 := by omega
  have hk0b : ((k : Int) == 0) = false := beq_eq_false_iff_ne.2 hk0
  have hq : ((x : Int)).tdiv (k : Int) = ((x / k : Nat) : Int) := by rw [Int.tdiv_eq_ediv_of_nonneg (by omega)]; rfl
  have hqw : IntKind.i64.wrap ((x / k : Nat) : Int) = ((x / k : Nat) : Int) := IntWalk.i64_in _ (by generalize x / k = q at *; omega)
  have hr : ((x : Int)).tmod (k : Int) = ((x % k : Nat) : Int) := by rw [Int.tmod_eq_emod_of_nonneg (by omega)]; rfl
  have hrl := Nat.mod_lt x (show 0 < k by omega)
  have hrw : IntKind.i64.wrap ((x % k : Nat) : Int) = ((x % k : Nat) : Int) := IntWalk.i64_in _ (by omega)
  cases hg : getL ((x / k : Nat) : Int) v.pl with
  | none =>
    rw [hg] at hlk HR
    dsimp only [ptrO, Option.map] at hlk HR
    clear hH hK hlt A hb hmb hm hg hs hv hkk
    generalize x / k = q at *
    go_enter Tryz.func39, Tryz.ntmps39
    go_wp2_with fail
    go_big_quiet (fail)
    go_wp2_with fail
    refine (zero_any _).mono ?_
    rintro e w1 ⟨rfl, M⟩
    have M1 := Lib.hid (((Mod.refl (fun _ => False) w).drewN nq).same M)
    clear M
    go_wp2
    exact HR.out _ _ ⟨rfl, M1.out⟩
  | some c =>
    rw [hg] at hlk HR
    dsimp only [ptrO, Option.map] at hlk HR
    obtain ⟨g, cap, hc1, hc2⟩ := A.hc v hv _ (getL_mem hg)
    dsimp only at hc1 hc2
    have hbc : Blk w c #[.slice (some ⟨g, 0, none⟩) S.k cap, .int .i64 (ow c)] := by have := hH c; rw [hc1] at this; exact this
    have hrw2 : RowV w g (S.sec c).length (txF (S.sec c)) := by have := hH g; rw [hc2] at this; exact this
    rw [hs c hg] at hrw2
    rw [hkk] at hbc
    have f0 := hbc.at_ (i := 0) (.slice (some ⟨g, 0, none⟩) k cap) rfl
    have g0 := hrw2.cell (x % k) hrl
    unfold txF at g0
    clear hH hK hlt A hb hmb hm hg hs hv hkk hbc hrw2 hc1 hc2
    generalize x / k = q at *
    generalize x % k = r at *
    go_enter Tryz.func39, Tryz.ntmps39
    go_wp2_with fail
    go_big_quiet (fail)
    go_wp2_with fail
    go_big_quiet (fail)
    go_wp2
    exact HR.out _ _ ⟨rfl, ((Mod.refl (fun _ => False) w).drewN _).drewN _⟩
end
end Go.Proofs.YtlcepoagpocadaaGreatDoor
set_option maxRecDepth 100000
/- A place's chunk, which it has alone. -/
namespace Go.Proofs.YtlcepoagpocadaaGreatDoor
open Go Go.RowKit
section
variable {H : Nat → Ob} {m vm : Nat} {S : MS} {ow ow' : Nat → Int}
/-- What nobody holds may be told of otherwise. -/
theorem Abs.tell (A : Abs H m vm S ow) {sec' : Nat → List (List UInt8)} (h : ∀ v ∈ S.vols, ∀ x ∈ v.pl, sec' x.2 = S.sec x.2 ∧ ow' x.2 = ow x.2) : Abs H m vm { S with sec := sec' } ow' := by
  refine ⟨A.hm, A.hv, A.hb, A.hp, fun v hv x hx => ?_, A.nd⟩
  obtain ⟨g, cap, q1, q2⟩ := A.hc v hv x hx
  obtain ⟨e1, e2⟩ := h v hv x hx
  exact ⟨g, cap, by rw [e2]; exact q1, by show H g = .rw x.2 (sec' x.2); rw [e1]; exact q2⟩
theorem delL_twice (p : Int) (L : List (Int × Nat)) : delL p (delL p L) = delL p L := delL_id (by rw [getL_del, if_pos rfl])
theorem repV_twice {v' v'' : Vo} (e : v''.id = v'.id) (l : List Vo) : repV v' (repV v'' l) = repV v' l := by
  unfold repV
  rw [List.map_map]
  apply List.map_congr_left
  intro u _
  simp only [Function.comp]
  by_cases q : u.id = v'.id
  · rw [if_pos (q.trans e.symm), if_pos e, if_pos q]
  · rw [if_neg (fun r : u.id = v''.id => q (r.trans e)), if_neg q]
end
def rowS (S : MS) (v : Vo) (p i : Nat) : List (List UInt8) := (List.range i).map fun j => secS S v (p * S.k + j)
theorem rowS_succ (S : MS) (v : Vo) (p i : Nat) : rowS S v p (i + 1) = rowS S v p i ++ [secS S v (p * S.k + i)] := by unfold rowS; rw [List.range_succ, List.map_append]; rfl
theorem own_mod2 {S : Nat → Prop} {w w' : World} {base size n : Nat} {e : TypeId} {v : Value} {xs : List Value} (h : w.ownsRow base e size v n xs) (M : Mod S w w') (hs : ∀ b, v.ownBlock = some b → ¬ S b) : w'.ownsRow base e size v n xs := by
  refine ⟨h.1, ?_⟩
  rcases h.2 with hn | ⟨g, cap, cur, rfl, hb, hgg, rest⟩
  · exact .inl hn
  · refine .inr ⟨g, cap, cur, rfl, hb, ?_, rest⟩
    rw [M.block g (Array.getElem?_eq_some_iff.1 hgg).1 (hs g rfl)]; exact hgg
theorem own_drew {w : World} {base size n : Nat} {e : TypeId} {v : Value} {xs : List Value} (h : w.ownsRow base e size v n xs) : w.drew.ownsRow base e size v n xs := h
theorem one_cell (l : List UInt8) : ∀ u ∈ [strV l], u.oneCell' = true := fun u hu => by simp at hu; subst hu; rfl
theorem info9 : (Tryz.prog.info? 9).map (fun i => (i.zero, i.size, i.bytes)) = some (some (.string ⟨#[]⟩), 1, 16) := by kernel_rfl
theorem cnt_le {S : MS} (G : Good S) (W : Wf S) (c : Nat) : cnt S.vols c ≤ 1024 := by
  have h1 : ∀ v ∈ S.vols, cntL c v.pl ≤ 64 := fun v hv => by
    have h2 := Rise.len (t := 0) (n := v.size) (G.rise v hv) (G.keys v hv) (G.sizes v hv).1
    have h3 := (G.sizes v hv).2
    have h4 : cntL c v.pl ≤ v.pl.length := List.length_filter_le _ _
    omega
  have h2 : S.vols.length ≤ 16 := by
    have := Rise.len (t := 1) (n := 17) (vols_rise W.nd) (fun x hx => by
      obtain ⟨v, hv, rfl⟩ := List.mem_map.1 hx
      have := G.ids v hv
      exact ⟨this.1, by dsimp only; omega⟩) (by omega)
    have e : (volsL S.vols).length = S.vols.length := by unfold volsL; simp
    rw [e] at this
    omega
  have h3 : ∀ l : List Vo, (∀ v ∈ l, cntL c v.pl ≤ 64) → cnt l c ≤ 64 * l.length := by
    intro l
    induction l with
    | nil => intro _; simp [cnt]
    | cons v r ih =>
      intro h
      rw [cnt_cons, List.length_cons]
      have a1 := h v (by simp)
      have a2 := ih (fun u hu => h u (by simp [hu]))
      omega
  have := h3 S.vols h1
  omega
theorem own_built {P : Program} {K K2 : Nat → Prop} {w3 w4 : World} {H3 : Nat → Ob} {m vm : Nat} {S : MS} {v : Vo} {p : Int} {ow3 : Nat → Int} {c g cap : Nat} {xs : List (List UInt8)}
    (hH : Holds P w3 H3) (hK : ∀ b, H3 b ≠ .no → ¬ K2 b) (hKK : ∀ i, K i → K2 i) (hlt : ∀ i, K i → i < w3.heap.size) (A : Abs H3 m vm (putS S { v with pl := delL p v.pl }) ow3) (hv : v ∈ S.vols)
    (hc2 : K2 c) (hg2 : K2 g) (hcK : ¬ K c) (hgK : ¬ K g) (hcg : g ≠ c) (hbc : Blk w3 c #[.slice (some ⟨g, 0, none⟩) S.k cap, .int .i64 1]) (hrow : RowV w3 g xs.length (txF xs))
    (hi : IMap P 3 w4 v.pb (putL p c (delL p v.pl))) (hgr : w3.grownBy w4 (some v.pb)) :
    Mem P K w4 m { S with vols := repV { v with pl := putL p c v.pl } S.vols, sec := upd S.sec c xs } (upd ow3 c 1) := by
  have hc0 : H3 c = .no := by
    by_cases q : H3 c = .no
    · exact q
    · exact absurd hc2 (hK c q)
  have hg0 : H3 g = .no := by
    by_cases q : H3 g = .no
    · exact q
    · exact absurd hg2 (hK g q)
  have hv3 : ({ v with pl := delL p v.pl } : Vo) ∈ (putS S { v with pl := delL p v.pl }).vols := mem_rep (v := v) hv rfl
  have hb3 := A.hb _ hv3
  have hp3 := A.hp _ hv3
  dsimp only at hb3 hp3
  have hbc' : v.b ≠ c := ne_H (H := H3) (by rw [hb3, hc0]; simp)
  have hbg' : v.b ≠ g := ne_H (H := H3) (by rw [hb3, hg0]; simp)
  have hpc' : v.pb ≠ c := ne_H (H := H3) (by rw [hp3, hc0]; simp)
  have hpg' : v.pb ≠ g := ne_H (H := H3) (by rw [hp3, hg0]; simp)
  have hbp' : v.b ≠ v.pb := ne_H (H := H3) (by rw [hb3, hp3]; simp)
  have H1 : Holds P w3 (upd H3 c (.cl 2 #[.slice (some ⟨g, 0, none⟩) S.k cap, .int .i64 1])) := hH.turn (b := c) (Mod.refl _ w3) hbc
  have H2 : Holds P w3 (upd (upd H3 c (.cl 2 #[.slice (some ⟨g, 0, none⟩) S.k cap, .int .i64 1])) g (.rw c xs)) := H1.turn (b := g) (Mod.refl _ w3) hrow
  have H4 := H2.turn' (b := v.pb) (o := .mp v.b (putL p c (delL p v.pl))) hgr (fun k hk => (Option.some.inj hk).symm) hi
  have A1 := A.more (o := .cl 2 #[.slice (some ⟨g, 0, none⟩) S.k cap, .int .i64 1]) hc0
  have A2 := A1.more (b := g) (o := .rw c xs) (by rw [upd_ne _ _ hcg]; exact hg0)
  have A3 := A2.tell (sec' := upd S.sec c xs) (ow' := upd ow3 c 1) (fun u hu x hx => by
    obtain ⟨g', cap', q1, q2⟩ := A.hc u hu x hx
    have : x.2 ≠ c := fun e => by rw [e, hc0] at q1; cases q1
    exact ⟨upd_ne _ _ this, upd_ne _ _ this⟩)
  have A4 := A3.rep (v' := { v with pl := putL p c (delL p v.pl) }) (H' := upd (upd (upd H3 c (.cl 2 #[.slice (some ⟨g, 0, none⟩) S.k cap, .int .i64 1])) g (.rw c xs)) v.pb (.mp v.b (putL p c (delL p v.pl)))) hv3 rfl rfl rfl
    (by dsimp only; rw [upd_ne _ _ hbp', upd_ne _ _ hbg', upd_ne _ _ hbc']; exact hb3) (upd_same _ _ _) (fun i h1 h2 => upd_ne _ _ h2) (fun x hx => by
      rcases mem_putL.1 hx with rfl | ⟨hx, _⟩
      · exact ⟨g, cap, by dsimp only; rw [upd_ne _ _ hcg.symm, upd_same, upd_same]; rfl, by dsimp only; rw [upd_same, upd_same]⟩
      · exact A3.hc _ hv3 x hx)
  have e1 : putL p c (delL p v.pl) = putL p c v.pl := by unfold putL; rw [delL_twice]
  rw [e1] at A4 H4
  have e2 : repV ({ v with pl := putL p c v.pl } : Vo) (putS S { v with pl := delL p v.pl }).vols = repV { v with pl := putL p c v.pl } S.vols := repV_twice (v' := { v with pl := putL p c v.pl }) (v'' := { v with pl := delL p v.pl }) rfl S.vols
  refine ⟨_, vm, H4, fun b hb => ?_, fun i hi => Nat.lt_of_lt_of_le (hlt i hi) hgr.size, ?_⟩
  · by_cases q : b = v.pb
    · rw [q]; exact fun r => hK v.pb (by rw [hp3]; simp) (hKK _ r)
    · rw [upd_ne _ _ q] at hb
      by_cases q2 : b = g
      · rw [q2]; exact hgK
      · rw [upd_ne _ _ q2] at hb
        by_cases q3 : b = c
        · rw [q3]; exact hcK
        · rw [upd_ne _ _ q3] at hb; exact fun r => hK b hb (hKK _ r)
  · have := A4
    dsimp only at this
    rw [e2] at this
    exact this
section
variable {K : Nat → Prop} {w : World} {m : Nat} {S : MS} {v : Vo}
set_option maxHeartbeats 8000000 in
theorem own_fresh {ow : Nat → Int} (h : Mem Tryz.prog K w m S ow) (hcn : ∀ c, 0 < cnt S.vols c → ow c = (cnt S.vols c : Int)) (G : Good S) (W : Wf S) (hv : v ∈ S.vols) (p : Nat) (hp : (p : Int) < v.size) (hf : ∀ c, getL (p : Int) v.pl = some c → cnt S.vols c ≠ 1) :
    Calls Tryz.prog 90 #[bp m, bp v.b, .int .i64 (p : Int)] w fun e w' => ∃ S' c, e = .returned (bp c) ∧ Own S v p S' c ∧ Md Tryz.prog K w' m S' ∧ Mod (fun i => ¬ K i) w w' := by
  refine opq fun R HR => ?_
  have HM := Lib.hid h
  obtain ⟨H, vm, hH, hK, hlt, A⟩ := h
  have hb : Blk w v.b (volC v) := by have := hH v.b; rw [A.hb v hv] at this; exact this
  have hmb : Blk w m #[.int .i64 (S.k : Int), .map (some vm)] := by have := hH m; rw [A.hm] at this; exact this
  have hm : IMap Tryz.prog 3 w v.pb v.pl := by have := hH v.pb; rw [A.hp v hv] at this; exact this
  have e5 := hb.at_ (i := 5) (.map (some v.pb)) rfl
  have hsz := G.sizes v hv
  have hlk := look106 hm (p := (p : Int)) (I64.of (by omega))
  have HG := Lib.hid G
  have HW := Lib.hid W
  have HV := Lib.hid hv
  have HF := Lib.hid hf
  have HC := Lib.hid hcn
  obtain ⟨k, hkk⟩ : ∃ k, S.k = k := ⟨_, rfl⟩
  have hk := G.k1
  have hk8 := G.k8
  have k0 := hmb.at_ (i := 0) (.int .i64 (S.k : Int)) rfl
  rw [hkk] at hk hk8 k0
  have HKK := Lib.hid hkk
  have hml := hmb.lt
  have hbl := hb.lt
  obtain ⟨i0, hi, hz0, hz1, hz2⟩ := info_parts info9
  have I0 := Lib.hid hi
  have Z0 := Lib.hid hz0
  have Z1 := Lib.hid hz1
  have Z2 := Lib.hid hz2
  have M0 := Lib.hid (show Same w (w.alloc (.cells #[.slice none 0 0, .int .i64 1] 125)) from (Mod.refl _ _).alloc _)
  have B0 := Lib.hid (Blk.new w #[.slice none 0 0, .int .i64 1] 125)
  have k0b := (M0.out.cell hml (fun q => q) 0).trans k0
  have hpk : p * k ≤ 64 * 8 := Nat.mul_le_mul (by omega) hk8
  have HSec := Lib.hid (show ∀ i, i < k → ∀ w', Same w w' → Calls Tryz.prog 39 #[bp m, bp v.b, .int .i64 (IntKind.i64.wrap ((p : Int) * (k : Int) + (i : Int)))] w' fun e w'' => e = .returned (.string ⟨(secS S v (p * S.k + i)).toArray⟩) ∧ Same w' w'' from fun i hi w' M => by
    rw [show (p : Int) * (k : Int) + (i : Int) = ((p * k + i : Nat) : Int) by simp, IntWalk.i64_in _ (by omega)]
    have := sector_any (HM.out.same M) hv (p * S.k + i) (by rw [hkk]; omega) (by rw [hkk]; exact ⟨hk, hk8⟩) (fun c hc => (G.secs v hv _ (getL_mem hc)).1)
    rw [hkk] at this ⊢
    exact this)
  have hkw : IntKind.i64.wrap ((p : Int) * (k : Int)) = ((p * k : Nat) : Int) := by
    have : p * k ≤ 64 * 8 := Nat.mul_le_mul (by omega) hk8
    rw [show (p : Int) * (k : Int) = ((p * k : Nat) : Int) by simp]
    exact IntWalk.i64_in _ (by omega)
  cases hg : getL (p : Int) v.pl with
  | none =>
    rw [hg] at hlk
    dsimp only [ptrO, Option.map] at hlk
    clear hH hK hlt A hb hmb hm hg hkk hi hz0 hz1 hz2 hf hcn G W hv
    go_enter Tryz.func90, Tryz.ntmps90
    go_wp2_with fail
    generalize w.alloc _ = W1 at *
    go_loopw [32] (fun vi wr => ∃ (i : Nat) (sl : Value), i ≤ k ∧ vi = .int .i64 (i : Int) ∧ wr.ownsRow (w.heap.size + 1) 9 1 sl i ((rowS S v p i).map strV) ∧ Blk wr w.heap.size #[sl, .int .i64 1] ∧ Same w wr) (fun vi _ => k - (intOf vi).toNat)
    case atStart => exact ⟨0, _, by omega, rfl, World.ownsRow_nil _ _ _ _, B0.out, M0.out⟩
    case round =>
      obtain ⟨i, sl, hi, rfl, hown, hblk, M⟩ := hrel
      have OX := Lib.hid hown
      have J := Lib.hid M
      have BB := Lib.hid hblk
      have c0 := hblk.at_ (i := 0) sl rfl
      have k1 := (M.cell hml (fun q => q) 0).trans k0
      have f0 := hblk.free 0
      clear hown hblk M
      by_cases hlt : i < k
      · go_wp2_with fail
        refine wp_region_held_drew (S := fun w' => True) (by kernel_rfl) (by (try dsimp only); all_goals trivial) (fun hHeld => ?_)
        refine wpAnyH_take (i := 0) (v := ?_) rfl (by kernel_rfl) (by kernel_rfl) (by kernel_rfl) (fun _ _ _ h => h) (Or.inl ⟨by rfl, ?_⟩) (by assumption) ?_
        rotate_left
        · intro w hSw
          try dsimp only at hSw
          go_simp
          try with_reducible rfl
        try simp only [List.getElem_toArray, List.getElem_cons_succ, List.getElem_cons_zero, Act.put, List.setIfInBounds_toArray, List.set_cons_zero, List.set_cons_succ]
        refine wpAnyH_take (i := 1) (v := ?_) rfl (by kernel_rfl) (by kernel_rfl) (by kernel_rfl) (fun _ _ _ h => h) (Or.inl ⟨by rfl, ?_⟩) (by assumption) ?_
        rotate_left
        · intro w hSw
          try dsimp only at hSw
          go_simp
          try with_reducible rfl
        try simp only [List.getElem_toArray, List.getElem_cons_succ, List.getElem_cons_zero, Act.put, List.setIfInBounds_toArray, List.set_cons_zero, List.set_cons_succ]
        refine wpAnyH_take (i := 2) (v := ?_) rfl (by kernel_rfl) (by kernel_rfl) (by kernel_rfl) (fun _ _ _ h => h) (Or.inl ⟨by rfl, ?_⟩) (by assumption) ?_
        rotate_left
        · intro w hSw
          try dsimp only at hSw
          go_simp
          try with_reducible rfl
        try simp only [List.getElem_toArray, List.getElem_cons_succ, List.getElem_cons_zero, Act.put, List.setIfInBounds_toArray, List.set_cons_zero, List.set_cons_succ]
        refine wpAnyH_take (i := 3) (v := ?_) rfl (by kernel_rfl) (by kernel_rfl) (by kernel_rfl) (fun _ _ _ h => h) (Or.inl ⟨by rfl, ?_⟩) (by assumption) ?_
        rotate_left
        · intro w hSw
          try dsimp only at hSw
          go_simp
          try with_reducible rfl
        try simp only [List.getElem_toArray, List.getElem_cons_succ, List.getElem_cons_zero, Act.put, List.setIfInBounds_toArray, List.set_cons_zero, List.set_cons_succ]
        refine wpAnyH_take (i := 5) (v := ?_) rfl (by kernel_rfl) (by kernel_rfl) (by kernel_rfl) (fun _ _ _ h => h) (Or.inl ⟨by rfl, ?_⟩) (by assumption) ?_
        rotate_left
        · intro w hSw
          try dsimp only at hSw
          go_simp
          try with_reducible rfl
        try simp only [List.getElem_toArray, List.getElem_cons_succ, List.getElem_cons_zero, Act.put, List.setIfInBounds_toArray, List.set_cons_zero, List.set_cons_succ]
        refine wpAnyH_take (i := 6) (v := ?_) rfl (by kernel_rfl) (by kernel_rfl) (by kernel_rfl) (fun _ _ _ h => h) (Or.inl ⟨by rfl, ?_⟩) (by assumption) ?_
        rotate_left
        · intro w hSw
          try dsimp only at hSw
          go_simp
          try with_reducible rfl
        try simp only [List.getElem_toArray, List.getElem_cons_succ, List.getElem_cons_zero, Act.put, List.setIfInBounds_toArray, List.set_cons_zero, List.set_cons_succ]
        refine wpAnyH_take (i := 7) (v := ?_) rfl (by kernel_rfl) (by kernel_rfl) (by kernel_rfl) (fun _ _ _ h => h) (Or.inl ⟨by rfl, ?_⟩) (by assumption) ?_
        rotate_left
        · intro w hSw
          try dsimp only at hSw
          go_simp
          try with_reducible rfl
        try simp only [List.getElem_toArray, List.getElem_cons_succ, List.getElem_cons_zero, Act.put, List.setIfInBounds_toArray, List.set_cons_zero, List.set_cons_succ]
        refine wpAnyH_take (i := 8) (v := ?_) rfl (by kernel_rfl) (by kernel_rfl) (by kernel_rfl) (fun _ _ _ h => h) (Or.inl ⟨by rfl, ?_⟩) (by assumption) ?_
        rotate_left
        · intro w hSw
          try dsimp only at hSw
          go_simp
          try with_reducible rfl
        try simp only [List.getElem_toArray, List.getElem_cons_succ, List.getElem_cons_zero, Act.put, List.setIfInBounds_toArray, List.set_cons_zero, List.set_cons_succ]
        refine wpAnyH_take (i := 9) (v := ?_) rfl (by kernel_rfl) (by kernel_rfl) (by kernel_rfl) (fun _ _ _ h => h) (Or.inl ⟨by rfl, ?_⟩) (by assumption) ?_
        rotate_left
        · intro w hSw
          try dsimp only at hSw
          go_simp
          try with_reducible rfl
        try simp only [List.getElem_toArray, List.getElem_cons_succ, List.getElem_cons_zero, Act.put, List.setIfInBounds_toArray, List.set_cons_zero, List.set_cons_succ]
        refine wpAnyH_take (i := 10) (v := ?_) rfl (by kernel_rfl) (by kernel_rfl) (by kernel_rfl) (fun _ _ _ h => h) (Or.inl ⟨by rfl, ?_⟩) (by assumption) ?_
        rotate_left
        · intro w hSw
          try dsimp only at hSw
          go_simp
          try with_reducible rfl
        try simp only [List.getElem_toArray, List.getElem_cons_succ, List.getElem_cons_zero, Act.put, List.setIfInBounds_toArray, List.set_cons_zero, List.set_cons_succ]
        refine wpAnyH_take (i := 13) (v := ?_) rfl (by kernel_rfl) (by kernel_rfl) (by kernel_rfl) (fun _ _ _ h => h) (Or.inl ⟨by rfl, ?_⟩) (by assumption) ?_
        rotate_left
        · intro w hSw
          try dsimp only at hSw
          go_simp
          try with_reducible rfl
        try simp only [List.getElem_toArray, List.getElem_cons_succ, List.getElem_cons_zero, Act.put, List.setIfInBounds_toArray, List.set_cons_zero, List.set_cons_succ]
        refine wpAnyH_ready (rs := [4, 11]) (by kernel_rfl) (by simp) ?_
        refine AllReadyH.cons rfl (fun Kc hKc => ?_) (AllReadyH.cons rfl (fun Kc hKc => ?_) (AllReadyH.nil))
        · go_simp
          refine hKc.out _ _ (by (try dsimp only); all_goals trivial) (fun hHeld => ?_)
          clear hKc Kc
          try simp only [List.getElem_toArray, List.getElem_cons_succ, List.getElem_cons_zero, Act.put, List.setIfInBounds_toArray, List.set_cons_zero, List.set_cons_succ]
          refine wpAnyH_ready (rs := [11]) (by kernel_rfl) (by simp) ?_
          refine AllReadyH.cons rfl (fun Kc hKc => ?_) AllReadyH.nil
          go_simp
          refine hKc.out _ _ (by (try dsimp only); all_goals trivial) (fun hHeld => ?_)
          clear hKc Kc
          try simp only [List.getElem_toArray, List.getElem_cons_succ, List.getElem_cons_zero, Act.put, List.setIfInBounds_toArray, List.set_cons_zero, List.set_cons_succ]
          refine wpAnyH_take (i := 12) (v := ?_) rfl (by kernel_rfl) (by kernel_rfl) (by kernel_rfl) (fun _ _ _ h => h) (Or.inl ⟨by rfl, ?_⟩) (by assumption) ?_
          rotate_left
          · intro w hSw
            try dsimp only at hSw
            go_simp
            try with_reducible rfl
          try simp only [List.getElem_toArray, List.getElem_cons_succ, List.getElem_cons_zero, Act.put, List.setIfInBounds_toArray, List.set_cons_zero, List.set_cons_succ]
          refine wpAnyH_take (i := 14) (v := ?_) rfl (by kernel_rfl) (by kernel_rfl) (by kernel_rfl) (fun _ _ _ h => h) (Or.inl ⟨by rfl, ?_⟩) (by assumption) ?_
          rotate_left
          · intro w hSw
            try dsimp only at hSw
            go_simp
            try with_reducible rfl
          try simp only [List.getElem_toArray, List.getElem_cons_succ, List.getElem_cons_zero, Act.put, List.setIfInBounds_toArray, List.set_cons_zero, List.set_cons_succ]
          refine wpAnyH_ready (rs := [15]) (by kernel_rfl) (by simp) ?_
          refine AllReadyH.cons rfl (fun Kc hKc => ?_) AllReadyH.nil
          go_simp
          refine (HSec.out i hlt _ (by first | exact J.out.drew | exact J.out)).mono ?_
          rintro e w1 ⟨rfl, M⟩
          have J1 := Lib.hid (J.out.drew.same M)
          have OX1 := Lib.hid (own_mod2 (own_drew OX.out) M (fun _ _ q => q))
          have BB1 := Lib.hid (BB.out.drew.mod M (fun q => q))
          have c01 := BB1.out.at_ (i := 0) sl rfl
          have f01 := BB1.out.free 0
          have hc1 : w.heap.size < w1.heap.size := BB1.out.lt
          clear M
          go_wp2_with fail
          refine hKc.out _ _ (by (try dsimp only); all_goals trivial) (fun hHeld => ?_)
          clear hKc Kc
          try simp only [List.getElem_toArray, List.getElem_cons_succ, List.getElem_cons_zero, Act.put, List.setIfInBounds_toArray, List.set_cons_zero, List.set_cons_succ]
          refine wpAnyH_ready (rs := [16]) (by kernel_rfl) (by simp) ?_
          refine AllReadyH.cons rfl (fun Kc hKc => ?_) AllReadyH.nil
          go_simp
          refine hKc.out _ _ (by (try dsimp only); all_goals trivial) (fun hHeld => ?_)
          clear hKc Kc
          try simp only [List.getElem_toArray, List.getElem_cons_succ, List.getElem_cons_zero, Act.put, List.setIfInBounds_toArray, List.set_cons_zero, List.set_cons_succ]
          refine wpAnyH_ready (rs := [17]) (by kernel_rfl) (by simp) ?_
          refine AllReadyH.cons rfl (fun Kc hKc => ?_) AllReadyH.nil
          refine step_append_lies _ rfl (.tmp 39) (.tmp 51) 32 rfl (w.heap.size + 1) 9 i0 (.string ⟨#[]⟩) 1 16 Tryz.underlying32 I0.out Z0.out Z1.out Z2.out rfl (by decide) sl i _ (by simp [Act.eval, Act.put]) (OX1.out.alloc (.cells #[.string ⟨(secS S v (p * S.k + i)).toArray⟩] 9)) ⟨w1.heap.size, 0, none⟩ 1 1 [.string ⟨(secS S v (p * S.k + i)).toArray⟩] (by simp [Act.eval, Act.put]) rfl (by have := one_new w1 (.string ⟨(secS S v (p * S.k + i)).toArray⟩) 9; simpa using this) (one_cell (secS S v (p * S.k + i))) (by decide) (by unfold maxLen; omega) (by omega) (by simp; omega) (w1.heap.size + 1) (by simp) ?_
          intro gg cap w2 hown1 hgrow hgb hglt1
          have NC : ∀ b, sl.ownBlock = some b → w.heap.size + 1 ≤ b := fun b hb => owns_ge OX.out b hb
          have MX := Lib.hid (((Mod.refl (fun b => sl.ownBlock = some b) w1).alloc (.cells #[.string ⟨(secS S v (p * S.k + i)).toArray⟩] 9)).grown hgrow (fun k hk _ => hk))
          have OO := Lib.hid hown1
          have BB2 := Lib.hid (BB1.out.mod MX.out (fun q => by have := NC _ q; omega))
          have J2 := Lib.hid (J1.out.then_ MX.out (fun b hb q => by have := NC _ q; omega))
          have f02 := BB2.out.free 0
          have c02 := BB2.out.at_ (i := 0) sl rfl
          have hc2 : w.heap.size < w2.heap.size := BB2.out.lt
          clear hown1 hgrow hgb
          refine hKc.out _ _ (by (try dsimp only); all_goals trivial) (fun hHeld => ?_)
          clear hKc Kc
          try simp only [List.getElem_toArray, List.getElem_cons_succ, List.getElem_cons_zero, Act.put, List.setIfInBounds_toArray, List.set_cons_zero, List.set_cons_succ]
          refine wpAnyH_take (i := 18) (v := ?_) rfl (by kernel_rfl) (by kernel_rfl) (by kernel_rfl) (fun _ _ _ h => h) (Or.inl ⟨by rfl, ?_⟩) (by assumption) ?_
          rotate_left
          · intro w hSw
            try dsimp only at hSw
            go_simp
            try with_reducible rfl
          try simp only [List.getElem_toArray, List.getElem_cons_succ, List.getElem_cons_zero, Act.put, List.setIfInBounds_toArray, List.set_cons_zero, List.set_cons_succ]
          refine wpAnyH_take (i := 19) (v := ?_) rfl (by kernel_rfl) (by kernel_rfl) (by kernel_rfl) (fun _ _ _ h => h) (Or.inl ⟨by rfl, ?_⟩) (by assumption) ?_
          rotate_left
          · intro w hSw
            try dsimp only at hSw
            go_simp
            try with_reducible rfl
          try simp only [List.getElem_toArray, List.getElem_cons_succ, List.getElem_cons_zero, Act.put, List.setIfInBounds_toArray, List.set_cons_zero, List.set_cons_succ]
          refine wpAnyH_ready (rs := [20]) (by kernel_rfl) (by simp) ?_
          refine AllReadyH.cons rfl (fun Kc hKc => ?_) AllReadyH.nil
          go_simp
          refine hKc.out _ _ (by (try dsimp only); all_goals trivial) (fun hHeld => ?_)
          clear hKc Kc
          try simp only [List.getElem_toArray, List.getElem_cons_succ, List.getElem_cons_zero, Act.put, List.setIfInBounds_toArray, List.set_cons_zero, List.set_cons_succ]
          refine wpAnyH_done (by kernel_rfl) ?_ _
          go_wp2
          go_roundw
          case rel => exact ⟨i + 1, _, by omega, by first | rfl | go_num, by rw [rowS_succ, List.map_append]; exact own_mod2 OO.out ((Mod.refl (fun b => b = w.heap.size) w2).setCell (p := ⟨w.heap.size, 0, none⟩) (fun _ => rfl) _) (fun b hb q => by have := owns_ge OO.out b hb; omega), BB2.out.set 0 _, J2.out.setCell (p := ⟨w.heap.size, 0, none⟩) (fun q => absurd q (Nat.lt_irrefl _)) _⟩
          case measure => simp [intOf]; omega
        · go_simp
          refine hKc.out _ _ (by (try dsimp only); all_goals trivial) (fun hHeld => ?_)
          clear hKc Kc
          try simp only [List.getElem_toArray, List.getElem_cons_succ, List.getElem_cons_zero, Act.put, List.setIfInBounds_toArray, List.set_cons_zero, List.set_cons_succ]
          refine wpAnyH_take (i := 12) (v := ?_) rfl (by kernel_rfl) (by kernel_rfl) (by kernel_rfl) (fun _ _ _ h => h) (Or.inl ⟨by rfl, ?_⟩) (by assumption) ?_
          rotate_left
          · intro w hSw
            try dsimp only at hSw
            go_simp
            try with_reducible rfl
          try simp only [List.getElem_toArray, List.getElem_cons_succ, List.getElem_cons_zero, Act.put, List.setIfInBounds_toArray, List.set_cons_zero, List.set_cons_succ]
          refine wpAnyH_take (i := 14) (v := ?_) rfl (by kernel_rfl) (by kernel_rfl) (by kernel_rfl) (fun _ _ _ h => h) (Or.inl ⟨by rfl, ?_⟩) (by assumption) ?_
          rotate_left
          · intro w hSw
            try dsimp only at hSw
            go_simp
            try with_reducible rfl
          try simp only [List.getElem_toArray, List.getElem_cons_succ, List.getElem_cons_zero, Act.put, List.setIfInBounds_toArray, List.set_cons_zero, List.set_cons_succ]
          refine wpAnyH_ready (rs := [4, 15]) (by kernel_rfl) (by simp) ?_
          refine AllReadyH.cons rfl (fun Kc hKc => ?_) (AllReadyH.cons rfl (fun Kc hKc => ?_) (AllReadyH.nil))
          · go_simp
            refine hKc.out _ _ (by (try dsimp only); all_goals trivial) (fun hHeld => ?_)
            clear hKc Kc
            try simp only [List.getElem_toArray, List.getElem_cons_succ, List.getElem_cons_zero, Act.put, List.setIfInBounds_toArray, List.set_cons_zero, List.set_cons_succ]
            refine wpAnyH_ready (rs := [15]) (by kernel_rfl) (by simp) ?_
            refine AllReadyH.cons rfl (fun Kc hKc => ?_) AllReadyH.nil
            go_simp
            refine (HSec.out i hlt _ (by first | exact J.out.drew | exact J.out)).mono ?_
            rintro e w1 ⟨rfl, M⟩
            have J1 := Lib.hid (J.out.drew.same M)
            have OX1 := Lib.hid (own_mod2 (own_drew OX.out) M (fun _ _ q => q))
            have BB1 := Lib.hid (BB.out.drew.mod M (fun q => q))
            have c01 := BB1.out.at_ (i := 0) sl rfl
            have f01 := BB1.out.free 0
            have hc1 : w.heap.size < w1.heap.size := BB1.out.lt
            clear M
            go_wp2_with fail
            refine hKc.out _ _ (by (try dsimp only); all_goals trivial) (fun hHeld => ?_)
            clear hKc Kc
            try simp only [List.getElem_toArray, List.getElem_cons_succ, List.getElem_cons_zero, Act.put, List.setIfInBounds_toArray, List.set_cons_zero, List.set_cons_succ]
            refine wpAnyH_ready (rs := [16]) (by kernel_rfl) (by simp) ?_
            refine AllReadyH.cons rfl (fun Kc hKc => ?_) AllReadyH.nil
            go_simp
            refine hKc.out _ _ (by (try dsimp only); all_goals trivial) (fun hHeld => ?_)
            clear hKc Kc
            try simp only [List.getElem_toArray, List.getElem_cons_succ, List.getElem_cons_zero, Act.put, List.setIfInBounds_toArray, List.set_cons_zero, List.set_cons_succ]
            refine wpAnyH_ready (rs := [17]) (by kernel_rfl) (by simp) ?_
            refine AllReadyH.cons rfl (fun Kc hKc => ?_) AllReadyH.nil
            refine step_append_lies _ rfl (.tmp 39) (.tmp 51) 32 rfl (w.heap.size + 1) 9 i0 (.string ⟨#[]⟩) 1 16 Tryz.underlying32 I0.out Z0.out Z1.out Z2.out rfl (by decide) sl i _ (by simp [Act.eval, Act.put]) (OX1.out.alloc (.cells #[.string ⟨(secS S v (p * S.k + i)).toArray⟩] 9)) ⟨w1.heap.size, 0, none⟩ 1 1 [.string ⟨(secS S v (p * S.k + i)).toArray⟩] (by simp [Act.eval, Act.put]) rfl (by have := one_new w1 (.string ⟨(secS S v (p * S.k + i)).toArray⟩) 9; simpa using this) (one_cell (secS S v (p * S.k + i))) (by decide) (by unfold maxLen; omega) (by omega) (by simp; omega) (w1.heap.size + 1) (by simp) ?_
            intro gg cap w2 hown1 hgrow hgb hglt1
            have NC : ∀ b, sl.ownBlock = some b → w.heap.size + 1 ≤ b := fun b hb => owns_ge OX.out b hb
            have MX := Lib.hid (((Mod.refl (fun b => sl.ownBlock = some b) w1).alloc (.cells #[.string ⟨(secS S v (p * S.k + i)).toArray⟩] 9)).grown hgrow (fun k hk _ => hk))
            have OO := Lib.hid hown1
            have BB2 := Lib.hid (BB1.out.mod MX.out (fun q => by have := NC _ q; omega))
            have J2 := Lib.hid (J1.out.then_ MX.out (fun b hb q => by have := NC _ q; omega))
            have f02 := BB2.out.free 0
            have c02 := BB2.out.at_ (i := 0) sl rfl
            have hc2 : w.heap.size < w2.heap.size := BB2.out.lt
            clear hown1 hgrow hgb
            refine hKc.out _ _ (by (try dsimp only); all_goals trivial) (fun hHeld => ?_)
            clear hKc Kc
            try simp only [List.getElem_toArray, List.getElem_cons_succ, List.getElem_cons_zero, Act.put, List.setIfInBounds_toArray, List.set_cons_zero, List.set_cons_succ]
            refine wpAnyH_take (i := 18) (v := ?_) rfl (by kernel_rfl) (by kernel_rfl) (by kernel_rfl) (fun _ _ _ h => h) (Or.inl ⟨by rfl, ?_⟩) (by assumption) ?_
            rotate_left
            · intro w hSw
              try dsimp only at hSw
              go_simp
              try with_reducible rfl
            try simp only [List.getElem_toArray, List.getElem_cons_succ, List.getElem_cons_zero, Act.put, List.setIfInBounds_toArray, List.set_cons_zero, List.set_cons_succ]
            refine wpAnyH_take (i := 19) (v := ?_) rfl (by kernel_rfl) (by kernel_rfl) (by kernel_rfl) (fun _ _ _ h => h) (Or.inl ⟨by rfl, ?_⟩) (by assumption) ?_
            rotate_left
            · intro w hSw
              try dsimp only at hSw
              go_simp
              try with_reducible rfl
            try simp only [List.getElem_toArray, List.getElem_cons_succ, List.getElem_cons_zero, Act.put, List.setIfInBounds_toArray, List.set_cons_zero, List.set_cons_succ]
            refine wpAnyH_ready (rs := [20]) (by kernel_rfl) (by simp) ?_
            refine AllReadyH.cons rfl (fun Kc hKc => ?_) AllReadyH.nil
            go_simp
            refine hKc.out _ _ (by (try dsimp only); all_goals trivial) (fun hHeld => ?_)
            clear hKc Kc
            try simp only [List.getElem_toArray, List.getElem_cons_succ, List.getElem_cons_zero, Act.put, List.setIfInBounds_toArray, List.set_cons_zero, List.set_cons_succ]
            refine wpAnyH_done (by kernel_rfl) ?_ _
            go_wp2
            go_roundw
            case rel => exact ⟨i + 1, _, by omega, by first | rfl | go_num, by rw [rowS_succ, List.map_append]; exact own_mod2 OO.out ((Mod.refl (fun b => b = w.heap.size) w2).setCell (p := ⟨w.heap.size, 0, none⟩) (fun _ => rfl) _) (fun b hb q => by have := owns_ge OO.out b hb; omega), BB2.out.set 0 _, J2.out.setCell (p := ⟨w.heap.size, 0, none⟩) (fun q => absurd q (Nat.lt_irrefl _)) _⟩
            case measure => simp [intOf]; omega
          · go_simp
            refine (HSec.out i hlt _ (by first | exact J.out.drew | exact J.out)).mono ?_
            rintro e w1 ⟨rfl, M⟩
            have J1 := Lib.hid (J.out.drew.same M)
            have OX1 := Lib.hid (own_mod2 (own_drew OX.out) M (fun _ _ q => q))
            have BB1 := Lib.hid (BB.out.drew.mod M (fun q => q))
            have c01 := BB1.out.at_ (i := 0) sl rfl
            have f01 := BB1.out.free 0
            have hc1 : w.heap.size < w1.heap.size := BB1.out.lt
            clear M
            go_wp2_with fail
            refine hKc.out _ _ (by (try dsimp only); all_goals trivial) (fun hHeld => ?_)
            clear hKc Kc
            try simp only [List.getElem_toArray, List.getElem_cons_succ, List.getElem_cons_zero, Act.put, List.setIfInBounds_toArray, List.set_cons_zero, List.set_cons_succ]
            refine wpAnyH_ready (rs := [4, 16]) (by kernel_rfl) (by simp) ?_
            refine AllReadyH.cons rfl (fun Kc hKc => ?_) (AllReadyH.cons rfl (fun Kc hKc => ?_) (AllReadyH.nil))
            · go_simp
              refine hKc.out _ _ (by (try dsimp only); all_goals trivial) (fun hHeld => ?_)
              clear hKc Kc
              try simp only [List.getElem_toArray, List.getElem_cons_succ, List.getElem_cons_zero, Act.put, List.setIfInBounds_toArray, List.set_cons_zero, List.set_cons_succ]
              refine wpAnyH_ready (rs := [16]) (by kernel_rfl) (by simp) ?_
              refine AllReadyH.cons rfl (fun Kc hKc => ?_) AllReadyH.nil
              go_simp
              refine hKc.out _ _ (by (try dsimp only); all_goals trivial) (fun hHeld => ?_)
              clear hKc Kc
              try simp only [List.getElem_toArray, List.getElem_cons_succ, List.getElem_cons_zero, Act.put, List.setIfInBounds_toArray, List.set_cons_zero, List.set_cons_succ]
              refine wpAnyH_ready (rs := [17]) (by kernel_rfl) (by simp) ?_
              refine AllReadyH.cons rfl (fun Kc hKc => ?_) AllReadyH.nil
              refine step_append_lies _ rfl (.tmp 39) (.tmp 51) 32 rfl (w.heap.size + 1) 9 i0 (.string ⟨#[]⟩) 1 16 Tryz.underlying32 I0.out Z0.out Z1.out Z2.out rfl (by decide) sl i _ (by simp [Act.eval, Act.put]) (OX1.out.alloc (.cells #[.string ⟨(secS S v (p * S.k + i)).toArray⟩] 9)) ⟨w1.heap.size, 0, none⟩ 1 1 [.string ⟨(secS S v (p * S.k + i)).toArray⟩] (by simp [Act.eval, Act.put]) rfl (by have := one_new w1 (.string ⟨(secS S v (p * S.k + i)).toArray⟩) 9; simpa using this) (one_cell (secS S v (p * S.k + i))) (by decide) (by unfold maxLen; omega) (by omega) (by simp; omega) (w1.heap.size + 1) (by simp) ?_
              intro gg cap w2 hown1 hgrow hgb hglt1
              have NC : ∀ b, sl.ownBlock = some b → w.heap.size + 1 ≤ b := fun b hb => owns_ge OX.out b hb
              have MX := Lib.hid (((Mod.refl (fun b => sl.ownBlock = some b) w1).alloc (.cells #[.string ⟨(secS S v (p * S.k + i)).toArray⟩] 9)).grown hgrow (fun k hk _ => hk))
              have OO := Lib.hid hown1
              have BB2 := Lib.hid (BB1.out.mod MX.out (fun q => by have := NC _ q; omega))
              have J2 := Lib.hid (J1.out.then_ MX.out (fun b hb q => by have := NC _ q; omega))
              have f02 := BB2.out.free 0
              have c02 := BB2.out.at_ (i := 0) sl rfl
              have hc2 : w.heap.size < w2.heap.size := BB2.out.lt
              clear hown1 hgrow hgb
              refine hKc.out _ _ (by (try dsimp only); all_goals trivial) (fun hHeld => ?_)
              clear hKc Kc
              try simp only [List.getElem_toArray, List.getElem_cons_succ, List.getElem_cons_zero, Act.put, List.setIfInBounds_toArray, List.set_cons_zero, List.set_cons_succ]
              refine wpAnyH_take (i := 18) (v := ?_) rfl (by kernel_rfl) (by kernel_rfl) (by kernel_rfl) (fun _ _ _ h => h) (Or.inl ⟨by rfl, ?_⟩) (by assumption) ?_
              rotate_left
              · intro w hSw
                try dsimp only at hSw
                go_simp
                try with_reducible rfl
              try simp only [List.getElem_toArray, List.getElem_cons_succ, List.getElem_cons_zero, Act.put, List.setIfInBounds_toArray, List.set_cons_zero, List.set_cons_succ]
              refine wpAnyH_take (i := 19) (v := ?_) rfl (by kernel_rfl) (by kernel_rfl) (by kernel_rfl) (fun _ _ _ h => h) (Or.inl ⟨by rfl, ?_⟩) (by assumption) ?_
              rotate_left
              · intro w hSw
                try dsimp only at hSw
                go_simp
                try with_reducible rfl
              try simp only [List.getElem_toArray, List.getElem_cons_succ, List.getElem_cons_zero, Act.put, List.setIfInBounds_toArray, List.set_cons_zero, List.set_cons_succ]
              refine wpAnyH_ready (rs := [20]) (by kernel_rfl) (by simp) ?_
              refine AllReadyH.cons rfl (fun Kc hKc => ?_) AllReadyH.nil
              go_simp
              refine hKc.out _ _ (by (try dsimp only); all_goals trivial) (fun hHeld => ?_)
              clear hKc Kc
              try simp only [List.getElem_toArray, List.getElem_cons_succ, List.getElem_cons_zero, Act.put, List.setIfInBounds_toArray, List.set_cons_zero, List.set_cons_succ]
              refine wpAnyH_done (by kernel_rfl) ?_ _
              go_wp2
              go_roundw
              case rel => exact ⟨i + 1, _, by omega, by first | rfl | go_num, by rw [rowS_succ, List.map_append]; exact own_mod2 OO.out ((Mod.refl (fun b => b = w.heap.size) w2).setCell (p := ⟨w.heap.size, 0, none⟩) (fun _ => rfl) _) (fun b hb q => by have := owns_ge OO.out b hb; omega), BB2.out.set 0 _, J2.out.setCell (p := ⟨w.heap.size, 0, none⟩) (fun q => absurd q (Nat.lt_irrefl _)) _⟩
              case measure => simp [intOf]; omega
            · go_simp
              refine hKc.out _ _ (by (try dsimp only); all_goals trivial) (fun hHeld => ?_)
              clear hKc Kc
              try simp only [List.getElem_toArray, List.getElem_cons_succ, List.getElem_cons_zero, Act.put, List.setIfInBounds_toArray, List.set_cons_zero, List.set_cons_succ]
              refine wpAnyH_ready (rs := [4]) (by kernel_rfl) (by simp) ?_
              refine AllReadyH.cons rfl (fun Kc hKc => ?_) AllReadyH.nil
              go_simp
              refine hKc.out _ _ (by (try dsimp only); all_goals trivial) (fun hHeld => ?_)
              clear hKc Kc
              try simp only [List.getElem_toArray, List.getElem_cons_succ, List.getElem_cons_zero, Act.put, List.setIfInBounds_toArray, List.set_cons_zero, List.set_cons_succ]
              refine wpAnyH_ready (rs := [17]) (by kernel_rfl) (by simp) ?_
              refine AllReadyH.cons rfl (fun Kc hKc => ?_) AllReadyH.nil
              refine step_append_lies _ rfl (.tmp 39) (.tmp 51) 32 rfl (w.heap.size + 1) 9 i0 (.string ⟨#[]⟩) 1 16 Tryz.underlying32 I0.out Z0.out Z1.out Z2.out rfl (by decide) sl i _ (by simp [Act.eval, Act.put]) (OX1.out.alloc (.cells #[.string ⟨(secS S v (p * S.k + i)).toArray⟩] 9)) ⟨w1.heap.size, 0, none⟩ 1 1 [.string ⟨(secS S v (p * S.k + i)).toArray⟩] (by simp [Act.eval, Act.put]) rfl (by have := one_new w1 (.string ⟨(secS S v (p * S.k + i)).toArray⟩) 9; simpa using this) (one_cell (secS S v (p * S.k + i))) (by decide) (by unfold maxLen; omega) (by omega) (by simp; omega) (w1.heap.size + 1) (by simp) ?_
              intro gg cap w2 hown1 hgrow hgb hglt1
              have NC : ∀ b, sl.ownBlock = some b → w.heap.size + 1 ≤ b := fun b hb => owns_ge OX.out b hb
              have MX := Lib.hid (((Mod.refl (fun b => sl.ownBlock = some b) w1).alloc (.cells #[.string ⟨(secS S v (p * S.k + i)).toArray⟩] 9)).grown hgrow (fun k hk _ => hk))
              have OO := Lib.hid hown1
              have BB2 := Lib.hid (BB1.out.mod MX.out (fun q => by have := NC _ q; omega))
              have J2 := Lib.hid (J1.out.then_ MX.out (fun b hb q => by have := NC _ q; omega))
              have f02 := BB2.out.free 0
              have c02 := BB2.out.at_ (i := 0) sl rfl
              have hc2 : w.heap.size < w2.heap.size := BB2.out.lt
              clear hown1 hgrow hgb
              refine hKc.out _ _ (by (try dsimp only); all_goals trivial) (fun hHeld => ?_)
              clear hKc Kc
              try simp only [List.getElem_toArray, List.getElem_cons_succ, List.getElem_cons_zero, Act.put, List.setIfInBounds_toArray, List.set_cons_zero, List.set_cons_succ]
              refine wpAnyH_take (i := 18) (v := ?_) rfl (by kernel_rfl) (by kernel_rfl) (by kernel_rfl) (fun _ _ _ h => h) (Or.inl ⟨by rfl, ?_⟩) (by assumption) ?_
              rotate_left
              · intro w hSw
                try dsimp only at hSw
                go_simp
                try with_reducible rfl
              try simp only [List.getElem_toArray, List.getElem_cons_succ, List.getElem_cons_zero, Act.put, List.setIfInBounds_toArray, List.set_cons_zero, List.set_cons_succ]
              refine wpAnyH_take (i := 19) (v := ?_) rfl (by kernel_rfl) (by kernel_rfl) (by kernel_rfl) (fun _ _ _ h => h) (Or.inl ⟨by rfl, ?_⟩) (by assumption) ?_
              rotate_left
              · intro w hSw
                try dsimp only at hSw
                go_simp
                try with_reducible rfl
              try simp only [List.getElem_toArray, List.getElem_cons_succ, List.getElem_cons_zero, Act.put, List.setIfInBounds_toArray, List.set_cons_zero, List.set_cons_succ]
              refine wpAnyH_ready (rs := [20]) (by kernel_rfl) (by simp) ?_
              refine AllReadyH.cons rfl (fun Kc hKc => ?_) AllReadyH.nil
              go_simp
              refine hKc.out _ _ (by (try dsimp only); all_goals trivial) (fun hHeld => ?_)
              clear hKc Kc
              try simp only [List.getElem_toArray, List.getElem_cons_succ, List.getElem_cons_zero, Act.put, List.setIfInBounds_toArray, List.set_cons_zero, List.set_cons_succ]
              refine wpAnyH_done (by kernel_rfl) ?_ _
              go_wp2
              go_roundw
              case rel => exact ⟨i + 1, _, by omega, by first | rfl | go_num, by rw [rowS_succ, List.map_append]; exact own_mod2 OO.out ((Mod.refl (fun b => b = w.heap.size) w2).setCell (p := ⟨w.heap.size, 0, none⟩) (fun _ => rfl) _) (fun b hb q => by have := owns_ge OO.out b hb; omega), BB2.out.set 0 _, J2.out.setCell (p := ⟨w.heap.size, 0, none⟩) (fun q => absurd q (Nat.lt_irrefl _)) _⟩
              case measure => simp [intOf]; omega
      · obtain rfl : k = i := by omega
        obtain ⟨g, cap, rfl, hgb, hgc, hrw⟩ := RowV.of_owns OX.out hk
        have hrl : ∀ c, getL (p : Int) v.pl = some c → 1 ≤ ow c ∧ ow c ≤ 1000000 := fun c hc => by
          have h1 := live_get HV.out hc
          have h2 := HC.out c h1
          have h3 := cnt_le HG.out HW.out c
          omega
        have HRel := Lib.hid (release_any (HM.out.more J.out) HV.out (p : Int) (I64.of (by omega)) hrl)
        have RW := Lib.hid (show RowV wr g (rowS S v p k).length (txF (rowS S v p k)) from by
          have e : (rowS S v p k).length = k := by unfold rowS; simp
          rw [e]
          refine RowV.congr (by rw [Nat.mul_one] at hrw; exact hrw) (fun j hj => ?_)
          unfold txF
          rw [List.getD_eq_getElem?_getD, List.getElem?_map, List.getD_eq_getElem?_getD, List.getElem?_eq_getElem (by rw [e]; exact hj)]; rfl)
        have hgw : g < wr.heap.size := hrw.lt
        have hcw : w.heap.size < wr.heap.size := BB.out.lt
        clear hrw hrl
        go_wp2_with fail
        refine HRel.out.mono ?_
        rintro e w3 ⟨rfl, hM3, hD3⟩
        obtain ⟨H3, vm3, hH3, hK3, hl3, A3⟩ := hM3
        have hv3 : ({ v with pl := delL (p : Int) v.pl } : Vo) ∈ (putS S { v with pl := delL (p : Int) v.pl }).vols := mem_rep (v := v) HV.out rfl
        have hb3 : Blk w3 v.b (volC v) := by have := hH3 v.b; rw [A3.hb _ hv3] at this; exact this
        have hm3 : IMap Tryz.prog 3 w3 v.pb (delL (p : Int) v.pl) := by have := hH3 v.pb; rw [A3.hp _ hv3] at this; exact this
        have e5c := hb3.at_ (i := 5) (.map (some v.pb)) rfl
        have hpl : (delL (p : Int) v.pl).length < 1000000 := by
          have h2 := Rise.len (t := 0) (n := v.size) (HG.out.rise v HV.out) (HG.out.keys v HV.out) hsz.1
          have h4 : (delL (p : Int) v.pl).length ≤ v.pl.length := List.length_filter_le _ _
          omega
        obtain ⟨w4, hrun, hi4, hg4⟩ := hm3.put Tryz.underlying3 Tryz.underlying106 hpl (p : Int) (I64.of (by omega)) w.heap.size
        have B3 := BB.out.mod hD3 (fun q => q (.inr ⟨Nat.le_refl _, hcw⟩))
        have R3 := RW.out.mod hD3 (fun q => q (.inr ⟨by omega, hgw⟩))
        have hnl : cnt S.vols w.heap.size = 0 := by
          obtain ⟨H, vm, hH, hK, hlt, A⟩ := HM.out
          by_cases q : 0 < cnt S.vols w.heap.size
          · obtain ⟨u, hu, x, hx, e⟩ := cnt_pos.1 q
            obtain ⟨g', cap', q1, q2⟩ := A.hc u hu x hx
            have := hH.lt (b := x.2) (by rw [q1]; simp)
            omega
          · omega
        have hKl : ∀ i, K i → i < w.heap.size := by obtain ⟨H, vm, hH, hK, hlt, A⟩ := HM.out; exact hlt
        have hfin := own_built (K := K) hH3 hK3 (fun i q => .inl q) (fun i q => by have := hKl i q; have := J.out.size; have := hD3.size; omega) A3 HV.out (.inr ⟨Nat.le_refl _, hcw⟩) (.inr ⟨by omega, hgw⟩) (fun q => by have := hKl _ q; omega) (fun q => by have := hKl _ q; omega) (show g ≠ w.heap.size by omega) (by rw [HKK.out]; exact B3) R3 hi4 hg4
        have hpbn : ¬ K v.pb := by
          obtain ⟨H, vm, hH, hK, hlt, A⟩ := HM.out
          exact hK v.pb (by rw [A.hp v HV.out]; simp)
        have hcp := fun e => cnt_put HW.out HV.out (p : Int) w.heap.size e
        have hgn : getL (p : Int) v.pl ≠ some w.heap.size := fun e => by have := live_get HV.out e; omega
        have HFin := Lib.hid hfin
        have HCP := Lib.hid hcp
        have HG4 := Lib.hid hg4
        have HD3 := Lib.hid hD3
        clear hfin hcp hH3 hK3 hl3 A3 hv3 hb3 hm3 hi4 hg4 B3 R3 hD3
        go_wp2
        refine HR.out _ _ ⟨_, w.heap.size, rfl, .inr ⟨HF.out, hnl, rfl⟩, ⟨_, (by have := HFin.out; unfold rowS at this; rw [← HKK.out] at this; exact this), ?_⟩, ?_⟩
        · intro e he
          have hq := HCP.out e
          by_cases q : e = w.heap.size
          · rw [q, upd_same]
            rw [q, if_neg hgn, if_pos rfl, hnl] at hq
            show (1 : Int) = (cnt (repV { v with pl := putL (p : Int) w.heap.size v.pl } S.vols) w.heap.size : Int)
            omega
          · rw [upd_ne _ _ q]
            rw [if_neg (fun r : w.heap.size = e => q r.symm)] at hq
            have he : 0 < cnt (repV { v with pl := putL (p : Int) w.heap.size v.pl } S.vols) e := he
            show _ = (cnt (repV { v with pl := putL (p : Int) w.heap.size v.pl } S.vols) e : Int)
            cases hgg : getL (p : Int) v.pl with
            | none =>
              rw [hgg] at hq
              simp only [reduceCtorEq, if_false] at hq
              dsimp only
              have := HC.out e (by omega)
              omega
            | some d =>
              rw [hgg] at hq
              dsimp only
              by_cases qd : e = d
              · subst qd
                rw [if_pos rfl] at hq
                rw [upd_same]
                have := HC.out e (by omega)
                omega
              · rw [if_neg (fun r => qd (Option.some.inj r).symm)] at hq
                rw [upd_ne _ _ qd]
                have := HC.out e (by omega)
                omega
        · exact ((J.out.mono (fun _ _ q => q.elim) : Mod (fun i => ¬ K i) w wr).then_ HD3.out (fun i _ q r => q (.inl r))).grown HG4.out (fun k hk _ => by rw [← Option.some.inj hk]; exact hpbn)
  | some d =>
    rw [hg] at hlk
    dsimp only [ptrO, Option.map] at hlk
    obtain ⟨g', cap', hd1, hd2⟩ := A.hc v hv _ (getL_mem hg)
    dsimp only at hd1 hd2
    have hbd : Blk w d #[.slice (some ⟨g', 0, none⟩) S.k cap', .int .i64 (ow d)] := by have := hH d; rw [hd1] at this; exact this
    have fd1 := hbd.at_ (i := 1) (.int .i64 (ow d)) rfl
    have hne : (ow d == 1) = false := beq_eq_false_iff_ne.2 (by
      have h1 := hcn d (live_get hv hg)
      have h2 := hf d hg
      omega)
    clear hH hK hlt A hb hmb hm hg hkk hi hz0 hz1 hz2 hf hcn G W hv hd1 hd2 hbd
    go_enter Tryz.func90, Tryz.ntmps90
    go_wp2_with fail
    generalize w.alloc _ = W1 at *
    go_loopw [32] (fun vi wr => ∃ (i : Nat) (sl : Value), i ≤ k ∧ vi = .int .i64 (i : Int) ∧ wr.ownsRow (w.heap.size + 1) 9 1 sl i ((rowS S v p i).map strV) ∧ Blk wr w.heap.size #[sl, .int .i64 1] ∧ Same w wr) (fun vi _ => k - (intOf vi).toNat)
    case atStart => exact ⟨0, _, by omega, rfl, World.ownsRow_nil _ _ _ _, B0.out, M0.out⟩
    case round =>
      obtain ⟨i, sl, hi, rfl, hown, hblk, M⟩ := hrel
      have OX := Lib.hid hown
      have J := Lib.hid M
      have BB := Lib.hid hblk
      have c0 := hblk.at_ (i := 0) sl rfl
      have k1 := (M.cell hml (fun q => q) 0).trans k0
      have f0 := hblk.free 0
      clear hown hblk M
      by_cases hlt : i < k
      · go_wp2_with fail
        refine wp_region_held_drew (S := fun w' => True) (by kernel_rfl) (by (try dsimp only); all_goals trivial) (fun hHeld => ?_)
        refine wpAnyH_take (i := 0) (v := ?_) rfl (by kernel_rfl) (by kernel_rfl) (by kernel_rfl) (fun _ _ _ h => h) (Or.inl ⟨by rfl, ?_⟩) (by assumption) ?_
        rotate_left
        · intro w hSw
          try dsimp only at hSw
          go_simp
          try with_reducible rfl
        try simp only [List.getElem_toArray, List.getElem_cons_succ, List.getElem_cons_zero, Act.put, List.setIfInBounds_toArray, List.set_cons_zero, List.set_cons_succ]
        refine wpAnyH_take (i := 1) (v := ?_) rfl (by kernel_rfl) (by kernel_rfl) (by kernel_rfl) (fun _ _ _ h => h) (Or.inl ⟨by rfl, ?_⟩) (by assumption) ?_
        rotate_left
        · intro w hSw
          try dsimp only at hSw
          go_simp
          try with_reducible rfl
        try simp only [List.getElem_toArray, List.getElem_cons_succ, List.getElem_cons_zero, Act.put, List.setIfInBounds_toArray, List.set_cons_zero, List.set_cons_succ]
        refine wpAnyH_take (i := 2) (v := ?_) rfl (by kernel_rfl) (by kernel_rfl) (by kernel_rfl) (fun _ _ _ h => h) (Or.inl ⟨by rfl, ?_⟩) (by assumption) ?_
        rotate_left
        · intro w hSw
          try dsimp only at hSw
          go_simp
          try with_reducible rfl
        try simp only [List.getElem_toArray, List.getElem_cons_succ, List.getElem_cons_zero, Act.put, List.setIfInBounds_toArray, List.set_cons_zero, List.set_cons_succ]
        refine wpAnyH_take (i := 3) (v := ?_) rfl (by kernel_rfl) (by kernel_rfl) (by kernel_rfl) (fun _ _ _ h => h) (Or.inl ⟨by rfl, ?_⟩) (by assumption) ?_
        rotate_left
        · intro w hSw
          try dsimp only at hSw
          go_simp
          try with_reducible rfl
        try simp only [List.getElem_toArray, List.getElem_cons_succ, List.getElem_cons_zero, Act.put, List.setIfInBounds_toArray, List.set_cons_zero, List.set_cons_succ]
        refine wpAnyH_take (i := 5) (v := ?_) rfl (by kernel_rfl) (by kernel_rfl) (by kernel_rfl) (fun _ _ _ h => h) (Or.inl ⟨by rfl, ?_⟩) (by assumption) ?_
        rotate_left
        · intro w hSw
          try dsimp only at hSw
          go_simp
          try with_reducible rfl
        try simp only [List.getElem_toArray, List.getElem_cons_succ, List.getElem_cons_zero, Act.put, List.setIfInBounds_toArray, List.set_cons_zero, List.set_cons_succ]
        refine wpAnyH_take (i := 6) (v := ?_) rfl (by kernel_rfl) (by kernel_rfl) (by kernel_rfl) (fun _ _ _ h => h) (Or.inl ⟨by rfl, ?_⟩) (by assumption) ?_
        rotate_left
        · intro w hSw
          try dsimp only at hSw
          go_simp
          try with_reducible rfl
        try simp only [List.getElem_toArray, List.getElem_cons_succ, List.getElem_cons_zero, Act.put, List.setIfInBounds_toArray, List.set_cons_zero, List.set_cons_succ]
        refine wpAnyH_take (i := 7) (v := ?_) rfl (by kernel_rfl) (by kernel_rfl) (by kernel_rfl) (fun _ _ _ h => h) (Or.inl ⟨by rfl, ?_⟩) (by assumption) ?_
        rotate_left
        · intro w hSw
          try dsimp only at hSw
          go_simp
          try with_reducible rfl
        try simp only [List.getElem_toArray, List.getElem_cons_succ, List.getElem_cons_zero, Act.put, List.setIfInBounds_toArray, List.set_cons_zero, List.set_cons_succ]
        refine wpAnyH_take (i := 8) (v := ?_) rfl (by kernel_rfl) (by kernel_rfl) (by kernel_rfl) (fun _ _ _ h => h) (Or.inl ⟨by rfl, ?_⟩) (by assumption) ?_
        rotate_left
        · intro w hSw
          try dsimp only at hSw
          go_simp
          try with_reducible rfl
        try simp only [List.getElem_toArray, List.getElem_cons_succ, List.getElem_cons_zero, Act.put, List.setIfInBounds_toArray, List.set_cons_zero, List.set_cons_succ]
        refine wpAnyH_take (i := 9) (v := ?_) rfl (by kernel_rfl) (by kernel_rfl) (by kernel_rfl) (fun _ _ _ h => h) (Or.inl ⟨by rfl, ?_⟩) (by assumption) ?_
        rotate_left
        · intro w hSw
          try dsimp only at hSw
          go_simp
          try with_reducible rfl
        try simp only [List.getElem_toArray, List.getElem_cons_succ, List.getElem_cons_zero, Act.put, List.setIfInBounds_toArray, List.set_cons_zero, List.set_cons_succ]
        refine wpAnyH_take (i := 10) (v := ?_) rfl (by kernel_rfl) (by kernel_rfl) (by kernel_rfl) (fun _ _ _ h => h) (Or.inl ⟨by rfl, ?_⟩) (by assumption) ?_
        rotate_left
        · intro w hSw
          try dsimp only at hSw
          go_simp
          try with_reducible rfl
        try simp only [List.getElem_toArray, List.getElem_cons_succ, List.getElem_cons_zero, Act.put, List.setIfInBounds_toArray, List.set_cons_zero, List.set_cons_succ]
        refine wpAnyH_take (i := 13) (v := ?_) rfl (by kernel_rfl) (by kernel_rfl) (by kernel_rfl) (fun _ _ _ h => h) (Or.inl ⟨by rfl, ?_⟩) (by assumption) ?_
        rotate_left
        · intro w hSw
          try dsimp only at hSw
          go_simp
          try with_reducible rfl
        try simp only [List.getElem_toArray, List.getElem_cons_succ, List.getElem_cons_zero, Act.put, List.setIfInBounds_toArray, List.set_cons_zero, List.set_cons_succ]
        refine wpAnyH_ready (rs := [4, 11]) (by kernel_rfl) (by simp) ?_
        refine AllReadyH.cons rfl (fun Kc hKc => ?_) (AllReadyH.cons rfl (fun Kc hKc => ?_) (AllReadyH.nil))
        · go_simp
          refine hKc.out _ _ (by (try dsimp only); all_goals trivial) (fun hHeld => ?_)
          clear hKc Kc
          try simp only [List.getElem_toArray, List.getElem_cons_succ, List.getElem_cons_zero, Act.put, List.setIfInBounds_toArray, List.set_cons_zero, List.set_cons_succ]
          refine wpAnyH_ready (rs := [11]) (by kernel_rfl) (by simp) ?_
          refine AllReadyH.cons rfl (fun Kc hKc => ?_) AllReadyH.nil
          go_simp
          refine hKc.out _ _ (by (try dsimp only); all_goals trivial) (fun hHeld => ?_)
          clear hKc Kc
          try simp only [List.getElem_toArray, List.getElem_cons_succ, List.getElem_cons_zero, Act.put, List.setIfInBounds_toArray, List.set_cons_zero, List.set_cons_succ]
          refine wpAnyH_take (i := 12) (v := ?_) rfl (by kernel_rfl) (by kernel_rfl) (by kernel_rfl) (fun _ _ _ h => h) (Or.inl ⟨by rfl, ?_⟩) (by assumption) ?_
          rotate_left
          · intro w hSw
            try dsimp only at hSw
            go_simp
            try with_reducible rfl
          try simp only [List.getElem_toArray, List.getElem_cons_succ, List.getElem_cons_zero, Act.put, List.setIfInBounds_toArray, List.set_cons_zero, List.set_cons_succ]
          refine wpAnyH_take (i := 14) (v := ?_) rfl (by kernel_rfl) (by kernel_rfl) (by kernel_rfl) (fun _ _ _ h => h) (Or.inl ⟨by rfl, ?_⟩) (by assumption) ?_
          rotate_left
          · intro w hSw
            try dsimp only at hSw
            go_simp
            try with_reducible rfl
          try simp only [List.getElem_toArray, List.getElem_cons_succ, List.getElem_cons_zero, Act.put, List.setIfInBounds_toArray, List.set_cons_zero, List.set_cons_succ]
          refine wpAnyH_ready (rs := [15]) (by kernel_rfl) (by simp) ?_
          refine AllReadyH.cons rfl (fun Kc hKc => ?_) AllReadyH.nil
          go_simp
          refine (HSec.out i hlt _ (by first | exact J.out.drew | exact J.out)).mono ?_
          rintro e w1 ⟨rfl, M⟩
          have J1 := Lib.hid (J.out.drew.same M)
          have OX1 := Lib.hid (own_mod2 (own_drew OX.out) M (fun _ _ q => q))
          have BB1 := Lib.hid (BB.out.drew.mod M (fun q => q))
          have c01 := BB1.out.at_ (i := 0) sl rfl
          have f01 := BB1.out.free 0
          have hc1 : w.heap.size < w1.heap.size := BB1.out.lt
          clear M
          go_wp2_with fail
          refine hKc.out _ _ (by (try dsimp only); all_goals trivial) (fun hHeld => ?_)
          clear hKc Kc
          try simp only [List.getElem_toArray, List.getElem_cons_succ, List.getElem_cons_zero, Act.put, List.setIfInBounds_toArray, List.set_cons_zero, List.set_cons_succ]
          refine wpAnyH_ready (rs := [16]) (by kernel_rfl) (by simp) ?_
          refine AllReadyH.cons rfl (fun Kc hKc => ?_) AllReadyH.nil
          go_simp
          refine hKc.out _ _ (by (try dsimp only); all_goals trivial) (fun hHeld => ?_)
          clear hKc Kc
          try simp only [List.getElem_toArray, List.getElem_cons_succ, List.getElem_cons_zero, Act.put, List.setIfInBounds_toArray, List.set_cons_zero, List.set_cons_succ]
          refine wpAnyH_ready (rs := [17]) (by kernel_rfl) (by simp) ?_
          refine AllReadyH.cons rfl (fun Kc hKc => ?_) AllReadyH.nil
          refine step_append_lies _ rfl (.tmp 39) (.tmp 51) 32 rfl (w.heap.size + 1) 9 i0 (.string ⟨#[]⟩) 1 16 Tryz.underlying32 I0.out Z0.out Z1.out Z2.out rfl (by decide) sl i _ (by simp [Act.eval, Act.put]) (OX1.out.alloc (.cells #[.string ⟨(secS S v (p * S.k + i)).toArray⟩] 9)) ⟨w1.heap.size, 0, none⟩ 1 1 [.string ⟨(secS S v (p * S.k + i)).toArray⟩] (by simp [Act.eval, Act.put]) rfl (by have := one_new w1 (.string ⟨(secS S v (p * S.k + i)).toArray⟩) 9; simpa using this) (one_cell (secS S v (p * S.k + i))) (by decide) (by unfold maxLen; omega) (by omega) (by simp; omega) (w1.heap.size + 1) (by simp) ?_
          intro gg cap w2 hown1 hgrow hgb hglt1
          have NC : ∀ b, sl.ownBlock = some b → w.heap.size + 1 ≤ b := fun b hb => owns_ge OX.out b hb
          have MX := Lib.hid (((Mod.refl (fun b => sl.ownBlock = some b) w1).alloc (.cells #[.string ⟨(secS S v (p * S.k + i)).toArray⟩] 9)).grown hgrow (fun k hk _ => hk))
          have OO := Lib.hid hown1
          have BB2 := Lib.hid (BB1.out.mod MX.out (fun q => by have := NC _ q; omega))
          have J2 := Lib.hid (J1.out.then_ MX.out (fun b hb q => by have := NC _ q; omega))
          have f02 := BB2.out.free 0
          have c02 := BB2.out.at_ (i := 0) sl rfl
          have hc2 : w.heap.size < w2.heap.size := BB2.out.lt
          clear hown1 hgrow hgb
          refine hKc.out _ _ (by (try dsimp only); all_goals trivial) (fun hHeld => ?_)
          clear hKc Kc
          try simp only [List.getElem_toArray, List.getElem_cons_succ, List.getElem_cons_zero, Act.put, List.setIfInBounds_toArray, List.set_cons_zero, List.set_cons_succ]
          refine wpAnyH_take (i := 18) (v := ?_) rfl (by kernel_rfl) (by kernel_rfl) (by kernel_rfl) (fun _ _ _ h => h) (Or.inl ⟨by rfl, ?_⟩) (by assumption) ?_
          rotate_left
          · intro w hSw
            try dsimp only at hSw
            go_simp
            try with_reducible rfl
          try simp only [List.getElem_toArray, List.getElem_cons_succ, List.getElem_cons_zero, Act.put, List.setIfInBounds_toArray, List.set_cons_zero, List.set_cons_succ]
          refine wpAnyH_take (i := 19) (v := ?_) rfl (by kernel_rfl) (by kernel_rfl) (by kernel_rfl) (fun _ _ _ h => h) (Or.inl ⟨by rfl, ?_⟩) (by assumption) ?_
          rotate_left
          · intro w hSw
            try dsimp only at hSw
            go_simp
            try with_reducible rfl
          try simp only [List.getElem_toArray, List.getElem_cons_succ, List.getElem_cons_zero, Act.put, List.setIfInBounds_toArray, List.set_cons_zero, List.set_cons_succ]
          refine wpAnyH_ready (rs := [20]) (by kernel_rfl) (by simp) ?_
          refine AllReadyH.cons rfl (fun Kc hKc => ?_) AllReadyH.nil
          go_simp
          refine hKc.out _ _ (by (try dsimp only); all_goals trivial) (fun hHeld => ?_)
          clear hKc Kc
          try simp only [List.getElem_toArray, List.getElem_cons_succ, List.getElem_cons_zero, Act.put, List.setIfInBounds_toArray, List.set_cons_zero, List.set_cons_succ]
          refine wpAnyH_done (by kernel_rfl) ?_ _
          go_wp2
          go_roundw
          case rel => exact ⟨i + 1, _, by omega, by first | rfl | go_num, by rw [rowS_succ, List.map_append]; exact own_mod2 OO.out ((Mod.refl (fun b => b = w.heap.size) w2).setCell (p := ⟨w.heap.size, 0, none⟩) (fun _ => rfl) _) (fun b hb q => by have := owns_ge OO.out b hb; omega), BB2.out.set 0 _, J2.out.setCell (p := ⟨w.heap.size, 0, none⟩) (fun q => absurd q (Nat.lt_irrefl _)) _⟩
          case measure => simp [intOf]; omega
        · go_simp
          refine hKc.out _ _ (by (try dsimp only); all_goals trivial) (fun hHeld => ?_)
          clear hKc Kc
          try simp only [List.getElem_toArray, List.getElem_cons_succ, List.getElem_cons_zero, Act.put, List.setIfInBounds_toArray, List.set_cons_zero, List.set_cons_succ]
          refine wpAnyH_take (i := 12) (v := ?_) rfl (by kernel_rfl) (by kernel_rfl) (by kernel_rfl) (fun _ _ _ h => h) (Or.inl ⟨by rfl, ?_⟩) (by assumption) ?_
          rotate_left
          · intro w hSw
            try dsimp only at hSw
            go_simp
            try with_reducible rfl
          try simp only [List.getElem_toArray, List.getElem_cons_succ, List.getElem_cons_zero, Act.put, List.setIfInBounds_toArray, List.set_cons_zero, List.set_cons_succ]
          refine wpAnyH_take (i := 14) (v := ?_) rfl (by kernel_rfl) (by kernel_rfl) (by kernel_rfl) (fun _ _ _ h => h) (Or.inl ⟨by rfl, ?_⟩) (by assumption) ?_
          rotate_left
          · intro w hSw
            try dsimp only at hSw
            go_simp
            try with_reducible rfl
          try simp only [List.getElem_toArray, List.getElem_cons_succ, List.getElem_cons_zero, Act.put, List.setIfInBounds_toArray, List.set_cons_zero, List.set_cons_succ]
          refine wpAnyH_ready (rs := [4, 15]) (by kernel_rfl) (by simp) ?_
          refine AllReadyH.cons rfl (fun Kc hKc => ?_) (AllReadyH.cons rfl (fun Kc hKc => ?_) (AllReadyH.nil))
          · go_simp
            refine hKc.out _ _ (by (try dsimp only); all_goals trivial) (fun hHeld => ?_)
            clear hKc Kc
            try simp only [List.getElem_toArray, List.getElem_cons_succ, List.getElem_cons_zero, Act.put, List.setIfInBounds_toArray, List.set_cons_zero, List.set_cons_succ]
            refine wpAnyH_ready (rs := [15]) (by kernel_rfl) (by simp) ?_
            refine AllReadyH.cons rfl (fun Kc hKc => ?_) AllReadyH.nil
            go_simp
            refine (HSec.out i hlt _ (by first | exact J.out.drew | exact J.out)).mono ?_
            rintro e w1 ⟨rfl, M⟩
            have J1 := Lib.hid (J.out.drew.same M)
            have OX1 := Lib.hid (own_mod2 (own_drew OX.out) M (fun _ _ q => q))
            have BB1 := Lib.hid (BB.out.drew.mod M (fun q => q))
            have c01 := BB1.out.at_ (i := 0) sl rfl
            have f01 := BB1.out.free 0
            have hc1 : w.heap.size < w1.heap.size := BB1.out.lt
            clear M
            go_wp2_with fail
            refine hKc.out _ _ (by (try dsimp only); all_goals trivial) (fun hHeld => ?_)
            clear hKc Kc
            try simp only [List.getElem_toArray, List.getElem_cons_succ, List.getElem_cons_zero, Act.put, List.setIfInBounds_toArray, List.set_cons_zero, List.set_cons_succ]
            refine wpAnyH_ready (rs := [16]) (by kernel_rfl) (by simp) ?_
            refine AllReadyH.cons rfl (fun Kc hKc => ?_) AllReadyH.nil
            go_simp
            refine hKc.out _ _ (by (try dsimp only); all_goals trivial) (fun hHeld => ?_)
            clear hKc Kc
            try simp only [List.getElem_toArray, List.getElem_cons_succ, List.getElem_cons_zero, Act.put, List.setIfInBounds_toArray, List.set_cons_zero, List.set_cons_succ]
            refine wpAnyH_ready (rs := [17]) (by kernel_rfl) (by simp) ?_
            refine AllReadyH.cons rfl (fun Kc hKc => ?_) AllReadyH.nil
            refine step_append_lies _ rfl (.tmp 39) (.tmp 51) 32 rfl (w.heap.size + 1) 9 i0 (.string ⟨#[]⟩) 1 16 Tryz.underlying32 I0.out Z0.out Z1.out Z2.out rfl (by decide) sl i _ (by simp [Act.eval, Act.put]) (OX1.out.alloc (.cells #[.string ⟨(secS S v (p * S.k + i)).toArray⟩] 9)) ⟨w1.heap.size, 0, none⟩ 1 1 [.string ⟨(secS S v (p * S.k + i)).toArray⟩] (by simp [Act.eval, Act.put]) rfl (by have := one_new w1 (.string ⟨(secS S v (p * S.k + i)).toArray⟩) 9; simpa using this) (one_cell (secS S v (p * S.k + i))) (by decide) (by unfold maxLen; omega) (by omega) (by simp; omega) (w1.heap.size + 1) (by simp) ?_
            intro gg cap w2 hown1 hgrow hgb hglt1
            have NC : ∀ b, sl.ownBlock = some b → w.heap.size + 1 ≤ b := fun b hb => owns_ge OX.out b hb
            have MX := Lib.hid (((Mod.refl (fun b => sl.ownBlock = some b) w1).alloc (.cells #[.string ⟨(secS S v (p * S.k + i)).toArray⟩] 9)).grown hgrow (fun k hk _ => hk))
            have OO := Lib.hid hown1
            have BB2 := Lib.hid (BB1.out.mod MX.out (fun q => by have := NC _ q; omega))
            have J2 := Lib.hid (J1.out.then_ MX.out (fun b hb q => by have := NC _ q; omega))
            have f02 := BB2.out.free 0
            have c02 := BB2.out.at_ (i := 0) sl rfl
            have hc2 : w.heap.size < w2.heap.size := BB2.out.lt
            clear hown1 hgrow hgb
            refine hKc.out _ _ (by (try dsimp only); all_goals trivial) (fun hHeld => ?_)
            clear hKc Kc
            try simp only [List.getElem_toArray, List.getElem_cons_succ, List.getElem_cons_zero, Act.put, List.setIfInBounds_toArray, List.set_cons_zero, List.set_cons_succ]
            refine wpAnyH_take (i := 18) (v := ?_) rfl (by kernel_rfl) (by kernel_rfl) (by kernel_rfl) (fun _ _ _ h => h) (Or.inl ⟨by rfl, ?_⟩) (by assumption) ?_
            rotate_left
            · intro w hSw
              try dsimp only at hSw
              go_simp
              try with_reducible rfl
            try simp only [List.getElem_toArray, List.getElem_cons_succ, List.getElem_cons_zero, Act.put, List.setIfInBounds_toArray, List.set_cons_zero, List.set_cons_succ]
            refine wpAnyH_take (i := 19) (v := ?_) rfl (by kernel_rfl) (by kernel_rfl) (by kernel_rfl) (fun _ _ _ h => h) (Or.inl ⟨by rfl, ?_⟩) (by assumption) ?_
            rotate_left
            · intro w hSw
              try dsimp only at hSw
              go_simp
              try with_reducible rfl
            try simp only [List.getElem_toArray, List.getElem_cons_succ, List.getElem_cons_zero, Act.put, List.setIfInBounds_toArray, List.set_cons_zero, List.set_cons_succ]
            refine wpAnyH_ready (rs := [20]) (by kernel_rfl) (by simp) ?_
            refine AllReadyH.cons rfl (fun Kc hKc => ?_) AllReadyH.nil
            go_simp
            refine hKc.out _ _ (by (try dsimp only); all_goals trivial) (fun hHeld => ?_)
            clear hKc Kc
            try simp only [List.getElem_toArray, List.getElem_cons_succ, List.getElem_cons_zero, Act.put, List.setIfInBounds_toArray, List.set_cons_zero, List.set_cons_succ]
            refine wpAnyH_done (by kernel_rfl) ?_ _
            go_wp2
            go_roundw
            case rel => exact ⟨i + 1, _, by omega, by first | rfl | go_num, by rw [rowS_succ, List.map_append]; exact own_mod2 OO.out ((Mod.refl (fun b => b = w.heap.size) w2).setCell (p := ⟨w.heap.size, 0, none⟩) (fun _ => rfl) _) (fun b hb q => by have := owns_ge OO.out b hb; omega), BB2.out.set 0 _, J2.out.setCell (p := ⟨w.heap.size, 0, none⟩) (fun q => absurd q (Nat.lt_irrefl _)) _⟩
            case measure => simp [intOf]; omega
          · go_simp
            refine (HSec.out i hlt _ (by first | exact J.out.drew | exact J.out)).mono ?_
            rintro e w1 ⟨rfl, M⟩
            have J1 := Lib.hid (J.out.drew.same M)
            have OX1 := Lib.hid (own_mod2 (own_drew OX.out) M (fun _ _ q => q))
            have BB1 := Lib.hid (BB.out.drew.mod M (fun q => q))
            have c01 := BB1.out.at_ (i := 0) sl rfl
            have f01 := BB1.out.free 0
            have hc1 : w.heap.size < w1.heap.size := BB1.out.lt
            clear M
            go_wp2_with fail
            refine hKc.out _ _ (by (try dsimp only); all_goals trivial) (fun hHeld => ?_)
            clear hKc Kc
            try simp only [List.getElem_toArray, List.getElem_cons_succ, List.getElem_cons_zero, Act.put, List.setIfInBounds_toArray, List.set_cons_zero, List.set_cons_succ]
            refine wpAnyH_ready (rs := [4, 16]) (by kernel_rfl) (by simp) ?_
            refine AllReadyH.cons rfl (fun Kc hKc => ?_) (AllReadyH.cons rfl (fun Kc hKc => ?_) (AllReadyH.nil))
            · go_simp
              refine hKc.out _ _ (by (try dsimp only); all_goals trivial) (fun hHeld => ?_)
              clear hKc Kc
              try simp only [List.getElem_toArray, List.getElem_cons_succ, List.getElem_cons_zero, Act.put, List.setIfInBounds_toArray, List.set_cons_zero, List.set_cons_succ]
              refine wpAnyH_ready (rs := [16]) (by kernel_rfl) (by simp) ?_
              refine AllReadyH.cons rfl (fun Kc hKc => ?_) AllReadyH.nil
              go_simp
              refine hKc.out _ _ (by (try dsimp only); all_goals trivial) (fun hHeld => ?_)
              clear hKc Kc
              try simp only [List.getElem_toArray, List.getElem_cons_succ, List.getElem_cons_zero, Act.put, List.setIfInBounds_toArray, List.set_cons_zero, List.set_cons_succ]
              refine wpAnyH_ready (rs := [17]) (by kernel_rfl) (by simp) ?_
              refine AllReadyH.cons rfl (fun Kc hKc => ?_) AllReadyH.nil
              refine step_append_lies _ rfl (.tmp 39) (.tmp 51) 32 rfl (w.heap.size + 1) 9 i0 (.string ⟨#[]⟩) 1 16 Tryz.underlying32 I0.out Z0.out Z1.out Z2.out rfl (by decide) sl i _ (by simp [Act.eval, Act.put]) (OX1.out.alloc (.cells #[.string ⟨(secS S v (p * S.k + i)).toArray⟩] 9)) ⟨w1.heap.size, 0, none⟩ 1 1 [.string ⟨(secS S v (p * S.k + i)).toArray⟩] (by simp [Act.eval, Act.put]) rfl (by have := one_new w1 (.string ⟨(secS S v (p * S.k + i)).toArray⟩) 9; simpa using this) (one_cell (secS S v (p * S.k + i))) (by decide) (by unfold maxLen; omega) (by omega) (by simp; omega) (w1.heap.size + 1) (by simp) ?_
              intro gg cap w2 hown1 hgrow hgb hglt1
              have NC : ∀ b, sl.ownBlock = some b → w.heap.size + 1 ≤ b := fun b hb => owns_ge OX.out b hb
              have MX := Lib.hid (((Mod.refl (fun b => sl.ownBlock = some b) w1).alloc (.cells #[.string ⟨(secS S v (p * S.k + i)).toArray⟩] 9)).grown hgrow (fun k hk _ => hk))
              have OO := Lib.hid hown1
              have BB2 := Lib.hid (BB1.out.mod MX.out (fun q => by have := NC _ q; omega))
              have J2 := Lib.hid (J1.out.then_ MX.out (fun b hb q => by have := NC _ q; omega))
              have f02 := BB2.out.free 0
              have c02 := BB2.out.at_ (i := 0) sl rfl
              have hc2 : w.heap.size < w2.heap.size := BB2.out.lt
              clear hown1 hgrow hgb
              refine hKc.out _ _ (by (try dsimp only); all_goals trivial) (fun hHeld => ?_)
              clear hKc Kc
              try simp only [List.getElem_toArray, List.getElem_cons_succ, List.getElem_cons_zero, Act.put, List.setIfInBounds_toArray, List.set_cons_zero, List.set_cons_succ]
              refine wpAnyH_take (i := 18) (v := ?_) rfl (by kernel_rfl) (by kernel_rfl) (by kernel_rfl) (fun _ _ _ h => h) (Or.inl ⟨by rfl, ?_⟩) (by assumption) ?_
              rotate_left
              · intro w hSw
                try dsimp only at hSw
                go_simp
                try with_reducible rfl
              try simp only [List.getElem_toArray, List.getElem_cons_succ, List.getElem_cons_zero, Act.put, List.setIfInBounds_toArray, List.set_cons_zero, List.set_cons_succ]
              refine wpAnyH_take (i := 19) (v := ?_) rfl (by kernel_rfl) (by kernel_rfl) (by kernel_rfl) (fun _ _ _ h => h) (Or.inl ⟨by rfl, ?_⟩) (by assumption) ?_
              rotate_left
              · intro w hSw
                try dsimp only at hSw
                go_simp
                try with_reducible rfl
              try simp only [List.getElem_toArray, List.getElem_cons_succ, List.getElem_cons_zero, Act.put, List.setIfInBounds_toArray, List.set_cons_zero, List.set_cons_succ]
              refine wpAnyH_ready (rs := [20]) (by kernel_rfl) (by simp) ?_
              refine AllReadyH.cons rfl (fun Kc hKc => ?_) AllReadyH.nil
              go_simp
              refine hKc.out _ _ (by (try dsimp only); all_goals trivial) (fun hHeld => ?_)
              clear hKc Kc
              try simp only [List.getElem_toArray, List.getElem_cons_succ, List.getElem_cons_zero, Act.put, List.setIfInBounds_toArray, List.set_cons_zero, List.set_cons_succ]
              refine wpAnyH_done (by kernel_rfl) ?_ _
              go_wp2
              go_roundw
              case rel => exact ⟨i + 1, _, by omega, by first | rfl | go_num, by rw [rowS_succ, List.map_append]; exact own_mod2 OO.out ((Mod.refl (fun b => b = w.heap.size) w2).setCell (p := ⟨w.heap.size, 0, none⟩) (fun _ => rfl) _) (fun b hb q => by have := owns_ge OO.out b hb; omega), BB2.out.set 0 _, J2.out.setCell (p := ⟨w.heap.size, 0, none⟩) (fun q => absurd q (Nat.lt_irrefl _)) _⟩
              case measure => simp [intOf]; omega
            · go_simp
              refine hKc.out _ _ (by (try dsimp only); all_goals trivial) (fun hHeld => ?_)
              clear hKc Kc
              try simp only [List.getElem_toArray, List.getElem_cons_succ, List.getElem_cons_zero, Act.put, List.setIfInBounds_toArray, List.set_cons_zero, List.set_cons_succ]
              refine wpAnyH_ready (rs := [4]) (by kernel_rfl) (by simp) ?_
              refine AllReadyH.cons rfl (fun Kc hKc => ?_) AllReadyH.nil
              go_simp
              refine hKc.out _ _ (by (try dsimp only); all_goals trivial) (fun hHeld => ?_)
              clear hKc Kc
              try simp only [List.getElem_toArray, List.getElem_cons_succ, List.getElem_cons_zero, Act.put, List.setIfInBounds_toArray, List.set_cons_zero, List.set_cons_succ]
              refine wpAnyH_ready (rs := [17]) (by kernel_rfl) (by simp) ?_
              refine AllReadyH.cons rfl (fun Kc hKc => ?_) AllReadyH.nil
              refine step_append_lies _ rfl (.tmp 39) (.tmp 51) 32 rfl (w.heap.size + 1) 9 i0 (.string ⟨#[]⟩) 1 16 Tryz.underlying32 I0.out Z0.out Z1.out Z2.out rfl (by decide) sl i _ (by simp [Act.eval, Act.put]) (OX1.out.alloc (.cells #[.string ⟨(secS S v (p * S.k + i)).toArray⟩] 9)) ⟨w1.heap.size, 0, none⟩ 1 1 [.string ⟨(secS S v (p * S.k + i)).toArray⟩] (by simp [Act.eval, Act.put]) rfl (by have := one_new w1 (.string ⟨(secS S v (p * S.k + i)).toArray⟩) 9; simpa using this) (one_cell (secS S v (p * S.k + i))) (by decide) (by unfold maxLen; omega) (by omega) (by simp; omega) (w1.heap.size + 1) (by simp) ?_
              intro gg cap w2 hown1 hgrow hgb hglt1
              have NC : ∀ b, sl.ownBlock = some b → w.heap.size + 1 ≤ b := fun b hb => owns_ge OX.out b hb
              have MX := Lib.hid (((Mod.refl (fun b => sl.ownBlock = some b) w1).alloc (.cells #[.string ⟨(secS S v (p * S.k + i)).toArray⟩] 9)).grown hgrow (fun k hk _ => hk))
              have OO := Lib.hid hown1
              have BB2 := Lib.hid (BB1.out.mod MX.out (fun q => by have := NC _ q; omega))
              have J2 := Lib.hid (J1.out.then_ MX.out (fun b hb q => by have := NC _ q; omega))
              have f02 := BB2.out.free 0
              have c02 := BB2.out.at_ (i := 0) sl rfl
              have hc2 : w.heap.size < w2.heap.size := BB2.out.lt
              clear hown1 hgrow hgb
              refine hKc.out _ _ (by (try dsimp only); all_goals trivial) (fun hHeld => ?_)
              clear hKc Kc
              try simp only [List.getElem_toArray, List.getElem_cons_succ, List.getElem_cons_zero, Act.put, List.setIfInBounds_toArray, List.set_cons_zero, List.set_cons_succ]
              refine wpAnyH_take (i := 18) (v := ?_) rfl (by kernel_rfl) (by kernel_rfl) (by kernel_rfl) (fun _ _ _ h => h) (Or.inl ⟨by rfl, ?_⟩) (by assumption) ?_
              rotate_left
              · intro w hSw
                try dsimp only at hSw
                go_simp
                try with_reducible rfl
              try simp only [List.getElem_toArray, List.getElem_cons_succ, List.getElem_cons_zero, Act.put, List.setIfInBounds_toArray, List.set_cons_zero, List.set_cons_succ]
              refine wpAnyH_take (i := 19) (v := ?_) rfl (by kernel_rfl) (by kernel_rfl) (by kernel_rfl) (fun _ _ _ h => h) (Or.inl ⟨by rfl, ?_⟩) (by assumption) ?_
              rotate_left
              · intro w hSw
                try dsimp only at hSw
                go_simp
                try with_reducible rfl
              try simp only [List.getElem_toArray, List.getElem_cons_succ, List.getElem_cons_zero, Act.put, List.setIfInBounds_toArray, List.set_cons_zero, List.set_cons_succ]
              refine wpAnyH_ready (rs := [20]) (by kernel_rfl) (by simp) ?_
              refine AllReadyH.cons rfl (fun Kc hKc => ?_) AllReadyH.nil
              go_simp
              refine hKc.out _ _ (by (try dsimp only); all_goals trivial) (fun hHeld => ?_)
              clear hKc Kc
              try simp only [List.getElem_toArray, List.getElem_cons_succ, List.getElem_cons_zero, Act.put, List.setIfInBounds_toArray, List.set_cons_zero, List.set_cons_succ]
              refine wpAnyH_done (by kernel_rfl) ?_ _
              go_wp2
              go_roundw
              case rel => exact ⟨i + 1, _, by omega, by first | rfl | go_num, by rw [rowS_succ, List.map_append]; exact own_mod2 OO.out ((Mod.refl (fun b => b = w.heap.size) w2).setCell (p := ⟨w.heap.size, 0, none⟩) (fun _ => rfl) _) (fun b hb q => by have := owns_ge OO.out b hb; omega), BB2.out.set 0 _, J2.out.setCell (p := ⟨w.heap.size, 0, none⟩) (fun q => absurd q (Nat.lt_irrefl _)) _⟩
              case measure => simp [intOf]; omega
      · obtain rfl : k = i := by omega
        obtain ⟨g, cap, rfl, hgb, hgc, hrw⟩ := RowV.of_owns OX.out hk
        have hrl : ∀ c, getL (p : Int) v.pl = some c → 1 ≤ ow c ∧ ow c ≤ 1000000 := fun c hc => by
          have h1 := live_get HV.out hc
          have h2 := HC.out c h1
          have h3 := cnt_le HG.out HW.out c
          omega
        have HRel := Lib.hid (release_any (HM.out.more J.out) HV.out (p : Int) (I64.of (by omega)) hrl)
        have RW := Lib.hid (show RowV wr g (rowS S v p k).length (txF (rowS S v p k)) from by
          have e : (rowS S v p k).length = k := by unfold rowS; simp
          rw [e]
          refine RowV.congr (by rw [Nat.mul_one] at hrw; exact hrw) (fun j hj => ?_)
          unfold txF
          rw [List.getD_eq_getElem?_getD, List.getElem?_map, List.getD_eq_getElem?_getD, List.getElem?_eq_getElem (by rw [e]; exact hj)]; rfl)
        have hgw : g < wr.heap.size := hrw.lt
        have hcw : w.heap.size < wr.heap.size := BB.out.lt
        clear hrw hrl
        go_wp2_with fail
        refine HRel.out.mono ?_
        rintro e w3 ⟨rfl, hM3, hD3⟩
        obtain ⟨H3, vm3, hH3, hK3, hl3, A3⟩ := hM3
        have hv3 : ({ v with pl := delL (p : Int) v.pl } : Vo) ∈ (putS S { v with pl := delL (p : Int) v.pl }).vols := mem_rep (v := v) HV.out rfl
        have hb3 : Blk w3 v.b (volC v) := by have := hH3 v.b; rw [A3.hb _ hv3] at this; exact this
        have hm3 : IMap Tryz.prog 3 w3 v.pb (delL (p : Int) v.pl) := by have := hH3 v.pb; rw [A3.hp _ hv3] at this; exact this
        have e5c := hb3.at_ (i := 5) (.map (some v.pb)) rfl
        have hpl : (delL (p : Int) v.pl).length < 1000000 := by
          have h2 := Rise.len (t := 0) (n := v.size) (HG.out.rise v HV.out) (HG.out.keys v HV.out) hsz.1
          have h4 : (delL (p : Int) v.pl).length ≤ v.pl.length := List.length_filter_le _ _
          omega
        obtain ⟨w4, hrun, hi4, hg4⟩ := hm3.put Tryz.underlying3 Tryz.underlying106 hpl (p : Int) (I64.of (by omega)) w.heap.size
        have B3 := BB.out.mod hD3 (fun q => q (.inr ⟨Nat.le_refl _, hcw⟩))
        have R3 := RW.out.mod hD3 (fun q => q (.inr ⟨by omega, hgw⟩))
        have hnl : cnt S.vols w.heap.size = 0 := by
          obtain ⟨H, vm, hH, hK, hlt, A⟩ := HM.out
          by_cases q : 0 < cnt S.vols w.heap.size
          · obtain ⟨u, hu, x, hx, e⟩ := cnt_pos.1 q
            obtain ⟨g', cap', q1, q2⟩ := A.hc u hu x hx
            have := hH.lt (b := x.2) (by rw [q1]; simp)
            omega
          · omega
        have hKl : ∀ i, K i → i < w.heap.size := by obtain ⟨H, vm, hH, hK, hlt, A⟩ := HM.out; exact hlt
        have hfin := own_built (K := K) hH3 hK3 (fun i q => .inl q) (fun i q => by have := hKl i q; have := J.out.size; have := hD3.size; omega) A3 HV.out (.inr ⟨Nat.le_refl _, hcw⟩) (.inr ⟨by omega, hgw⟩) (fun q => by have := hKl _ q; omega) (fun q => by have := hKl _ q; omega) (show g ≠ w.heap.size by omega) (by rw [HKK.out]; exact B3) R3 hi4 hg4
        have hpbn : ¬ K v.pb := by
          obtain ⟨H, vm, hH, hK, hlt, A⟩ := HM.out
          exact hK v.pb (by rw [A.hp v HV.out]; simp)
        have hcp := fun e => cnt_put HW.out HV.out (p : Int) w.heap.size e
        have hgn : getL (p : Int) v.pl ≠ some w.heap.size := fun e => by have := live_get HV.out e; omega
        have HFin := Lib.hid hfin
        have HCP := Lib.hid hcp
        have HG4 := Lib.hid hg4
        have HD3 := Lib.hid hD3
        clear hfin hcp hH3 hK3 hl3 A3 hv3 hb3 hm3 hi4 hg4 B3 R3 hD3
        go_wp2
        refine HR.out _ _ ⟨_, w.heap.size, rfl, .inr ⟨HF.out, hnl, rfl⟩, ⟨_, (by have := HFin.out; unfold rowS at this; rw [← HKK.out] at this; exact this), ?_⟩, ?_⟩
        · intro e he
          have hq := HCP.out e
          by_cases q : e = w.heap.size
          · rw [q, upd_same]
            rw [q, if_neg hgn, if_pos rfl, hnl] at hq
            show (1 : Int) = (cnt (repV { v with pl := putL (p : Int) w.heap.size v.pl } S.vols) w.heap.size : Int)
            omega
          · rw [upd_ne _ _ q]
            rw [if_neg (fun r : w.heap.size = e => q r.symm)] at hq
            have he : 0 < cnt (repV { v with pl := putL (p : Int) w.heap.size v.pl } S.vols) e := he
            show _ = (cnt (repV { v with pl := putL (p : Int) w.heap.size v.pl } S.vols) e : Int)
            cases hgg : getL (p : Int) v.pl with
            | none =>
              rw [hgg] at hq
              simp only [reduceCtorEq, if_false] at hq
              dsimp only
              have := HC.out e (by omega)
              omega
            | some d =>
              rw [hgg] at hq
              dsimp only
              by_cases qd : e = d
              · subst qd
                rw [if_pos rfl] at hq
                rw [upd_same]
                have := HC.out e (by omega)
                omega
              · rw [if_neg (fun r => qd (Option.some.inj r).symm)] at hq
                rw [upd_ne _ _ qd]
                have := HC.out e (by omega)
                omega
        · exact ((J.out.mono (fun _ _ q => q.elim) : Mod (fun i => ¬ K i) w wr).then_ HD3.out (fun i _ q r => q (.inl r))).grown HG4.out (fun k hk _ => by rw [← Option.some.inj hk]; exact hpbn)
set_option maxHeartbeats 4000000 in
theorem own_old {ow : Nat → Int} {d : Nat} (h : Mem Tryz.prog K w m S ow) (hcn : ∀ c, 0 < cnt S.vols c → ow c = (cnt S.vols c : Int)) (hv : v ∈ S.vols) (p : Nat) (hp : (p : Int) ≤ 1000) (hg : getL (p : Int) v.pl = some d) (h1 : cnt S.vols d = 1) :
    Calls Tryz.prog 90 #[bp m, bp v.b, .int .i64 (p : Int)] w fun e w' => e = .returned (bp d) ∧ w' = w := by
  refine opq fun R HR => ?_
  obtain ⟨H, vm, hH, hK, hlt, A⟩ := h
  have hb : Blk w v.b (volC v) := by have := hH v.b; rw [A.hb v hv] at this; exact this
  have hm : IMap Tryz.prog 3 w v.pb v.pl := by have := hH v.pb; rw [A.hp v hv] at this; exact this
  have e5 := hb.at_ (i := 5) (.map (some v.pb)) rfl
  have hlk := look106 hm (p := (p : Int)) (I64.of (by omega))
  rw [hg] at hlk
  dsimp only [ptrO, Option.map] at hlk
  obtain ⟨g', cap', hd1, hd2⟩ := A.hc v hv _ (getL_mem hg)
  dsimp only at hd1 hd2
  have hbd : Blk w d #[.slice (some ⟨g', 0, none⟩) S.k cap', .int .i64 (ow d)] := by have := hH d; rw [hd1] at this; exact this
  have fd1 := hbd.at_ (i := 1) (.int .i64 (ow d)) rfl
  rw [hcn d (by omega), h1] at fd1
  clear hH hK hlt A hb hm hg hd1 hd2 hbd hcn
  go_enter Tryz.func90, Tryz.ntmps90
  go_wp2_with fail
  go_wp2
  exact HR.out _ _ ⟨rfl, rfl⟩
/-- A place's chunk, which it has alone. -/
theorem own_any (h : Md Tryz.prog K w m S) (G : Good S) (W : Wf S) (hv : v ∈ S.vols) (p : Nat) (hp : (p : Int) < v.size) :
    Calls Tryz.prog 90 #[bp m, bp v.b, .int .i64 (p : Int)] w fun e w' => ∃ S' c, e = .returned (bp c) ∧ Own S v p S' c ∧ Md Tryz.prog K w' m S' ∧ Mod (fun i => ¬ K i) w w' := by
  obtain ⟨ow, hM, hcn⟩ := h
  by_cases q : ∃ d, getL (p : Int) v.pl = some d ∧ cnt S.vols d = 1
  · obtain ⟨d, hg, h1⟩ := q
    refine (own_old hM hcn hv p (by have := G.sizes v hv; omega) hg h1).mono ?_
    rintro e w' ⟨rfl, rfl⟩
    exact ⟨S, d, rfl, .inl ⟨hg, h1, rfl⟩, ⟨ow, hM, hcn⟩, Mod.refl _ _⟩
  · exact own_fresh hM hcn G W hv p hp (fun c hc e => q ⟨c, hc, e⟩)
end
end Go.Proofs.YtlcepoagpocadaaGreatDoor
set_option maxRecDepth 100000
/- A volume with a sector range; a volume is pinned. -/
namespace Go.Proofs.YtlcepoagpocadaaGreatDoor
open Go Go.RowKit
theorem getL_find (S : MS) (id : Int) : getL id (volsL S.vols) = (findV S id).map Vo.b := by
  unfold findV volsL
  induction S.vols with
  | nil => rfl
  | cons v r ih =>
    rw [List.map_cons, getL, List.find?_cons]
    by_cases q : v.id = id
    · simp only [q, decide_true, if_true]; rfl
    · simp only [q, decide_false, if_false]; exact ih
section
variable {K : Nat → Prop} {w : World} {m : Nat} {S : MS} {ow : Nat → Int} {v : Vo}
theorem Mem.parts (h : Mem Tryz.prog K w m S ow) : ∃ vm, Blk w m #[.int .i64 (S.k : Int), .map (some vm)] ∧ IMap Tryz.prog 3 w vm (volsL S.vols) ∧ ∀ v ∈ S.vols, Blk w v.b (volC v) ∧ IMap Tryz.prog 3 w v.pb v.pl := by
  obtain ⟨H, vm, hH, hK, hlt, A⟩ := h
  refine ⟨vm, ?_, ?_, fun v hv => ⟨?_, ?_⟩⟩
  · have := hH m; rw [A.hm] at this; exact this
  · have := hH vm; rw [A.hv] at this; exact this
  · have := hH v.b; rw [A.hb v hv] at this; exact this
  · have := hH v.pb; rw [A.hp v hv] at this; exact this
theorem look_vol {vm : Nat} (h : IMap Tryz.prog 3 w vm (volsL S.vols)) {id : Int} (hid : I64 id) (n : Nat) : (Instr.lookup 109 (.map (some vm)) (.int .i64 id) false).run Tryz.prog (w.drewN n) = .ok (ptrO ((findV S id).map Vo.b)) (w.drewN n) := by
  have := look109 (h.mod ((Mod.refl (fun _ => False) w).drewN n) (fun q => q)) hid
  rw [getL_find] at this
  exact this
theorem range_none {id x n : Int} (hf : findV S id = none) : rangeS S id x n = 7 := by unfold rangeS; rw [hf]
theorem range_arg {id x n : Int} (hf : findV S id = some v) (q : x < 0 ∨ n < 1 ∨ 2 * (S.k : Int) < n) : rangeS S id x n = 1 := by unfold rangeS; rw [hf]; dsimp only; rw [if_pos q]
theorem range_far {id x n : Int} (hf : findV S id = some v) (q : ¬ (x < 0 ∨ n < 1 ∨ 2 * (S.k : Int) < n)) (r : v.size * S.k < x ∨ v.size * S.k - x < n) : rangeS S id x n = 9 := by unfold rangeS; rw [hf]; dsimp only; rw [if_neg q, if_pos r]
theorem range_ok {id x n : Int} (hf : findV S id = some v) (q : ¬ (x < 0 ∨ n < 1 ∨ 2 * (S.k : Int) < n)) (r : ¬ (v.size * S.k < x ∨ v.size * S.k - x < n)) : rangeS S id x n = 0 := by unfold rangeS; rw [hf]; dsimp only; rw [if_neg q, if_neg r]
set_option maxHeartbeats 4000000 in
theorem within_any (h : Mem Tryz.prog K w m S ow) (hk : 1 ≤ S.k ∧ S.k ≤ 8) (hz : ∀ v ∈ S.vols, 0 ≤ v.size ∧ v.size ≤ 64) (id x n : Int) (hid : I64 id) (hx : I64 x) (hn : I64 n) :
    Calls Tryz.prog 46 #[bp m, .int .i64 id, .int .i64 x, .int .i64 n] w fun e w' => e = .returned (.tuple #[ptrO (if rangeS S id x n = 0 then (findV S id).map Vo.b else none), .int .i64 (rangeS S id x n)]) ∧ Same w w' := by
  refine opq fun R HR => ?_
  obtain ⟨vm, hb, hm, hv⟩ := h.parts
  have hlk := look_vol hm hid 0
  rw [show w.drewN 0 = w from rfl] at hlk
  have k0 := hb.at_ (i := 0) (.int .i64 (S.k : Int)) rfl
  have k1 := hb.at_ (i := 1) (.map (some vm)) rfl
  obtain ⟨k, hkk⟩ : ∃ k, S.k = k := ⟨_, rfl⟩
  rw [hkk] at hk k0
  have hx' := hx.bd
  have hn' := hn.bd
  have SM := Lib.hid (Mod.refl (fun _ => False) w)
  cases hf : findV S id with
  | none =>
    rw [range_none hf, hf, if_neg (by decide)] at HR
    rw [hf] at hlk
    dsimp only [ptrO, Option.map] at HR hlk
    clear hb hm hv hz hf hkk hid hx hn
    go_enter Tryz.func46, Tryz.ntmps46
    go_wp2_with fail
    go_wp2
    exact HR.out _ _ ⟨rfl, SM.out⟩
  | some v =>
    rw [hf] at hlk
    have rA := range_arg (x := x) (n := n) hf
    have rF := range_far (x := x) (n := n) hf
    have rO := range_ok (x := x) (n := n) hf
    rw [hkk] at rA rF rO
    have hvm := (findV_mem hf).1
    have hvz := hz v hvm
    have hvb := (hv v hvm).1
    have v1 := hvb.at_ (i := 1) (.int .i64 v.size) rfl
    obtain ⟨z, hzz⟩ : ∃ z : Nat, v.size = (z : Int) := ⟨v.size.toNat, by omega⟩
    rw [hzz] at hvz v1 rF rO
    have hzk : z * k ≤ 64 * 8 := Nat.mul_le_mul (by omega) hk.2
    have hw1 : IntKind.i64.wrap ((z : Int) * (k : Int)) = ((z * k : Nat) : Int) := by
      rw [show (z : Int) * (k : Int) = ((z * k : Nat) : Int) by simp]
      exact IntWalk.i64_in _ (by omega)
    have hw2 : IntKind.i64.wrap (2 * (k : Int)) = 2 * (k : Int) := IntWalk.i64_in _ (by omega)
    have hzi : (z : Int) * (k : Int) = ((z * k : Nat) : Int) := by simp
    rw [hzi] at rF rO
    rw [hf] at HR
    dsimp only [ptrO, Option.map] at HR hlk
    have RA := Lib.hid rA
    have RF := Lib.hid rF
    have RO := Lib.hid rO
    clear hb hm hv hz hf hkk hid hx hn hvm hvb hzz hzi rA rF rO
    generalize v.b = vb at *
    generalize z * k = zk at *
    by_cases q1 : x < 0
    · have d1 : decide (x < 0) = true := decide_eq_true q1
      rw [RA.out (.inl q1), if_neg (by decide)] at HR
      go_enter Tryz.func46, Tryz.ntmps46
      go_wp2_with fail
      go_wp2
      exact HR.out _ _ ⟨rfl, SM.out⟩
    · have d1 : decide (x < 0) = false := decide_eq_false q1
      by_cases q2 : n < 1
      · have d2 : decide (n < 1) = true := decide_eq_true q2
        rw [RA.out (.inr (.inl q2)), if_neg (by decide)] at HR
        go_enter Tryz.func46, Tryz.ntmps46
        go_wp2_with fail
        go_wp2
        exact HR.out _ _ ⟨rfl, SM.out⟩
      · have d2 : decide (n < 1) = false := decide_eq_false q2
        by_cases q3 : 2 * (k : Int) < n
        · have d3 : decide (2 * (k : Int) < n) = true := decide_eq_true q3
          have d3' : decide (n > 2 * (k : Int)) = true := d3
          rw [RA.out (.inr (.inr q3)), if_neg (by decide)] at HR
          go_enter Tryz.func46, Tryz.ntmps46
          go_wp2_with fail
          go_wp2
          exact HR.out _ _ ⟨rfl, SM.out⟩
        · have d3 : decide (2 * (k : Int) < n) = false := decide_eq_false q3
          have d3' : decide (n > 2 * (k : Int)) = false := d3
          have q123 : ¬ (x < 0 ∨ n < 1 ∨ 2 * (k : Int) < n) := fun r => r.elim q1 (fun r => r.elim q2 q3)
          by_cases q4 : (zk : Int) < x
          · have d4 : decide ((zk : Int) < x) = true := decide_eq_true q4
            have d4' : decide (x > (zk : Int)) = true := d4
            rw [RF.out q123 (.inl q4), if_neg (by decide)] at HR
            go_enter Tryz.func46, Tryz.ntmps46
            go_wp2_with fail
            go_big_quiet (fail)
            go_wp2
            exact HR.out _ _ ⟨rfl, SM.out.drewN _⟩
          · have d4 : decide ((zk : Int) < x) = false := decide_eq_false q4
            have d4' : decide (x > (zk : Int)) = false := d4
            have hw3 : IntKind.i64.wrap ((zk : Int) - x) = (zk : Int) - x := IntWalk.i64_in _ (by omega)
            by_cases q5 : (zk : Int) - x < n
            · have d5 : decide ((zk : Int) - x < n) = true := decide_eq_true q5
              have d5' : decide (n > (zk : Int) - x) = true := d5
              rw [RF.out q123 (.inr q5), if_neg (by decide)] at HR
              go_enter Tryz.func46, Tryz.ntmps46
              go_wp2_with fail
              go_big_quiet (fail)
              go_wp2
              exact HR.out _ _ ⟨rfl, SM.out.drewN _⟩
            · have d5 : decide ((zk : Int) - x < n) = false := decide_eq_false q5
              have d5' : decide (n > (zk : Int) - x) = false := d5
              rw [RO.out q123 (fun r => r.elim q4 q5), if_pos rfl] at HR
              go_enter Tryz.func46, Tryz.ntmps46
              go_wp2_with fail
              go_big_quiet (fail)
              go_wp2
              exact HR.out _ _ ⟨rfl, SM.out.drewN _⟩
end
end Go.Proofs.YtlcepoagpocadaaGreatDoor
set_option maxRecDepth 100000
/- A volume is pinned; a volume is made. -/
namespace Go.Proofs.YtlcepoagpocadaaGreatDoor
open Go Go.RowKit
section
variable {K : Nat → Prop} {w : World} {m : Nat} {S : MS} {ow : Nat → Int} {v v' : Vo}
theorem Mem.put_cell (h : Mem Tryz.prog K w m S ow) (hv : v ∈ S.vols) {i : Nat} {u : Value} (e1 : v'.id = v.id) (e2 : v'.b = v.b) (e3 : v'.pb = v.pb) (e4 : v'.pl = v.pl) (hc : (volC v).setIfInBounds i u = volC v') :
    Mem Tryz.prog K (w.setCell ⟨v.b, i, none⟩ u) m (putS S v') ow ∧ Mod (fun i => ¬ K i) w (w.setCell ⟨v.b, i, none⟩ u) := by
  obtain ⟨H, vm, hH, hK, hlt, A⟩ := h
  have hb : Blk w v.b (volC v) := by have := hH v.b; rw [A.hb v hv] at this; exact this
  have hKb : ¬ K v.b := hK v.b (by rw [A.hb v hv]; simp)
  have hbp : v.pb ≠ v.b := ne_H (H := H) (by rw [A.hb v hv, A.hp v hv]; simp)
  have M1 : Mod (fun j => j = v.b) w (w.setCell ⟨v.b, i, none⟩ u) := (Mod.refl (fun j => j = v.b) w).setCell (p := ⟨v.b, i, none⟩) (fun _ => rfl) _
  have hb' := hb.set i u
  rw [hc] at hb'
  refine ⟨⟨_, vm, hH.turn (b := v.b) (o := .cl 1 (volC v')) M1 hb', fun b hb => ?_, fun j hj => ?_, A.rep hv e1 e2 e3 (upd_same _ _ _) (by rw [upd_ne _ _ hbp, A.hp v hv, e4]) (fun j h1 _ => upd_ne _ _ h1) (fun x hx => A.hc v hv x (by rw [← e4]; exact hx))⟩, M1.mono (fun j _ q => by rw [q]; exact hKb)⟩
  · by_cases q : b = v.b
    · rw [q]; exact hKb
    · rw [upd_ne _ _ q] at hb; exact hK b hb
  · exact Nat.lt_of_lt_of_le (hlt j hj) M1.size
set_option maxHeartbeats 4000000 in
theorem pin_any (h : Mem Tryz.prog K w m S ow) (id : Int) (hid : I64 id) (is : Bool) :
    Calls Tryz.prog 56 #[bp m, .int .i64 id, .bool is] w fun e w' => e = .returned (.int .i64 (pinS S id is).1) ∧ Mem Tryz.prog K w' m (pinS S id is).2 ow ∧ Mod (fun i => ¬ K i) w w' := by
  refine opq fun R HR => ?_
  have HM := Lib.hid h
  obtain ⟨vm, hb, hm, hv⟩ := h.parts
  have hlk := look_vol hm hid 0
  rw [show w.drewN 0 = w from rfl] at hlk
  have k1 := hb.at_ (i := 1) (.map (some vm)) rfl
  unfold pinS at HR
  cases hf : findV S id with
  | none =>
    rw [hf] at hlk HR
    dsimp only [ptrO, Option.map] at HR hlk
    clear hb hm hv hf hid
    go_enter Tryz.func56, Tryz.ntmps56
    go_wp2_with fail
    go_wp2
    exact HR.out _ _ ⟨rfl, HM.out, Mod.refl _ _⟩
  | some v =>
    rw [hf] at hlk HR
    dsimp only [ptrO, Option.map] at HR hlk
    have hvm := (findV_mem hf).1
    have v3 := (hv v hvm).1.at_ (i := 3) (.bool v.pin) rfl
    have f3 := (hv v hvm).1.free 3
    have HP := Lib.hid (HM.out.put_cell hvm (i := 3) (u := .bool is) (v' := { v with pin := is }) rfl rfl rfl rfl rfl)
    clear hb hm hv hf hid hvm
    go_enter Tryz.func56, Tryz.ntmps56
    go_wp2_with fail
    go_wp2
    exact HR.out _ _ ⟨rfl, HP.out.1, HP.out.2⟩
/-- A volume is made. -/
theorem Mem.add_vol {w3 : World} {nb npb : Nat} (h : Mem Tryz.prog K w m S ow) {vm : Nat} {id size fr : Int} {pl : List (Int × Nat)} (hf : findV S id = none) (hb : Blk w nb (volC ⟨nb, npb, id, size, fr, false, pl⟩)) (hp : IMap Tryz.prog 3 w npb pl) (hKb : K nb) (hKp : K npb) (hne : nb ≠ npb)
    (hpl : ∀ x ∈ pl, ∃ v ∈ S.vols, x ∈ v.pl) {K' : Nat → Prop} (hKK : ∀ i, K' i → K i) (hnb : ¬ K' nb) (hnp : ¬ K' npb)
    (hvm : ∀ H vm', Holds Tryz.prog w H → Abs H m vm' S ow → vm' = vm) (hi : IMap Tryz.prog 3 w3 vm (putL id nb (volsL S.vols))) (hg : w.grownBy w3 (some vm)) :
    Mem Tryz.prog K' w3 m { S with vols := insV ⟨nb, npb, id, size, fr, false, pl⟩ S.vols } ow := by
  obtain ⟨H, vm', hH, hK, hlt, A⟩ := h
  obtain rfl := hvm H vm' hH A
  have hb0 : H nb = .no := by
    by_cases q : H nb = .no
    · exact q
    · exact absurd hKb (hK nb q)
  have hp0 : H npb = .no := by
    by_cases q : H npb = .no
    · exact q
    · exact absurd hKp (hK npb q)
  have H1 : Holds Tryz.prog w (upd H nb (.cl 1 (volC ⟨nb, npb, id, size, fr, false, pl⟩))) := hH.turn (b := nb) (Mod.refl _ w) hb
  have H2 : Holds Tryz.prog w (upd (upd H nb (.cl 1 (volC ⟨nb, npb, id, size, fr, false, pl⟩))) npb (.mp nb pl)) := H1.turn (b := npb) (Mod.refl _ w) hp
  have A1 := A.more (o := .cl 1 (volC ⟨nb, npb, id, size, fr, false, pl⟩)) hb0
  have A2 := A1.more (b := npb) (o := .mp nb pl) (by rw [upd_ne _ _ hne.symm]; exact hp0)
  have H4 := H2.turn' (b := vm') (o := .mp m (putL id nb (volsL S.vols))) hg (fun k hk => (Option.some.inj hk).symm) hi
  have A3 := A2.add (v := ⟨nb, npb, id, size, fr, false, pl⟩) (by dsimp only; rw [getL_find, hf]; rfl) (by dsimp only; rw [upd_ne _ _ hne, upd_same]) (upd_same _ _ _) (fun x hx => by
    obtain ⟨v, hv, hx⟩ := hpl x hx
    exact A2.hc v hv x hx) rfl
  have hvK : ¬ K vm' := hK vm' (by rw [A.hv]; simp)
  refine ⟨_, vm', H4, fun b hb => ?_, fun i hi => Nat.lt_of_lt_of_le (hlt i (hKK i hi)) hg.size, A3⟩
  by_cases q : b = vm'
  · rw [q]; exact fun r => hvK (hKK _ r)
  · rw [upd_ne _ _ q] at hb
    by_cases q2 : b = npb
    · rw [q2]; exact hnp
    · rw [upd_ne _ _ q2] at hb
      by_cases q3 : b = nb
      · rw [q3]; exact hnb
      · rw [upd_ne _ _ q3] at hb; exact fun r => hK b hb (hKK _ r)
end
end Go.Proofs.YtlcepoagpocadaaGreatDoor
