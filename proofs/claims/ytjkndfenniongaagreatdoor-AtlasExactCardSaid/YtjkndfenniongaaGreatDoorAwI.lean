import Derived.Test.YtjkndfenniongaaGreatDoorAwH
import Derived.Deep.DeepCutAuto
import Derived.StillTailTactics
set_option linter.unusedSimpArgs false
set_option linter.unusedVariables false
set_option maxRecDepth 100000
/- The document's look at nodes. -/
namespace Go.Proofs.YtjkndfenniongaaGreatDoor
open Go Go.RowKit
def lookK (f : Int × Int → Int → Bool → WSt → Option WSt) (has : Bool) (hi lv : Int) : List (Int × Int) → WSt → Option WSt
  | [], st => some st
  | x :: r, st => if has = true ∧ hi ≤ x.1 then none else if lv = 0 then lookK f has hi lv r (st.1, st.2 ++ [x]) else (match r with | [] => f x hi has st | y :: _ => f x y.1 true st).bind (lookK f has hi lv r)
theorem lookK_cons (f : Int × Int → Int → Bool → WSt → Option WSt) (has : Bool) (hi lv : Int) (x : Int × Int) (r : List (Int × Int)) (st : WSt) : lookK f has hi lv (x :: r) st = if has = true ∧ hi ≤ x.1 then none else if lv = 0 then lookK f has hi lv r (st.1, st.2 ++ [x]) else (match r with | [] => f x hi has st | y :: _ => f x y.1 true st).bind (lookK f has hi lv r) := by
  cases r <;> rfl
def lookOk (lvl fi lv : Int) (L : List (Int × Int)) : Prop := goodL lv L = true ∧ L.length ≠ 0 ∧ (0 ≤ lvl → lv = lvl ∧ (L.getD 0 (0, 0)).1 = fi) ∧ (lvl < 0 → 0 < lv → 2 ≤ L.length)
instance (lvl fi lv : Int) (L : List (Int × Int)) : Decidable (lookOk lvl fi lv L) := by unfold lookOk; exact inferInstance
/-- A look at a node, and all below; none: it isn't sound. -/
def lookN (nd : Nat → Int × List (Int × Int)) (n : Nat) : Nat → Int → Int → Int → Bool → Int → WSt → Option WSt
  | 0, _, _, _, _, _, _ => none
  | m + 1, p, lvl, fi, has, hi, st => if p < 1 ∨ (n : Int) < p then none else if st.1.contains p = true then none
    else if lookOk lvl fi (nd (p.toNat - 1)).1 (nd (p.toNat - 1)).2 then lookK (fun x h e st => lookN nd n m x.2 ((nd (p.toNat - 1)).1 - 1) x.1 e h st) has hi (nd (p.toNat - 1)).1 (nd (p.toNat - 1)).2 (st.1 ++ [p], st.2)
    else none
def LookT (B : Nat) (F : Nat → Prop) (w : World) (k : Nat) : Option WSt → Prop
  | none => ∃ pv qv st, Wk B F w k pv qv (.bool true) st
  | some st => ∃ pv qv, Wk B F w k pv qv (.bool false) st
def AltK (B : Nat) (F : Nat → Prop) (k : Nat) (f : Int × Int → Int → Bool → WSt → Option WSt) (has : Bool) (hi lv : Int) (R : List (Int × Int)) (res : Option WSt) (i : Nat) (w : World) : Prop :=
  (∃ pv qv st, Wk B F w k pv qv (.bool false) st ∧ lookK f has hi lv R st = res ∧ (lv = 0 → st.2.length + 15 ≤ 15 * st.1.length + i)) ∨ (res = none ∧ lv ≠ 0 ∧ ∃ pv qv st, Wk B F w k pv qv (.bool true) st)
theorem AltK.done {B : Nat} {F F' : Nat → Prop} {k : Nat} {f : Int × Int → Int → Bool → WSt → Option WSt} {has : Bool} {hi lv : Int} {res : Option WSt} {i : Nat} {w : World} (h : AltK B F k f has hi lv [] res i w) (c : ∀ i, F' i → F i) : LookT B F' w k res := by
  rcases h with ⟨pv, qv, st, hw, he, _⟩ | ⟨he, _, pv, qv, st, hw⟩
  · simp only [lookK] at he
    subst he
    exact ⟨pv, qv, hw.less c⟩
  · subst he
    exact ⟨pv, qv, st, hw.less c⟩
theorem AltK.kid {B : Nat} {F : Nat → Prop} {k : Nat} {f : Int × Int → Int → Bool → WSt → Option WSt} {has : Bool} {hi lv : Int} {R : List (Int × Int)} {res r0 : Option WSt} {i : Nat} {w : World} (h : LookT B F w k r0) (he : r0.bind (lookK f has hi lv R) = res) (h0 : lv ≠ 0) : AltK B F k f has hi lv R res i w := by
  cases r0 with
  | none => exact .inr ⟨he.symm, h0, h⟩
  | some st' =>
    obtain ⟨pv, qv, hw⟩ := h
    exact .inl ⟨pv, qv, st', hw, he, fun q => absurd q h0⟩
theorem look_isbad {B : Nat} {F : Nat → Prop} {w : World} {k : Nat} {pv qv : Value} {st : WSt} (K : Wk B F w k pv qv (.bool true) st) (a1 a2 a3 a4 a5 a6 : Value) : Calls Tryz.prog 41 #[bp k, a1, a2, a3, a4, a5, a6] w fun e w' => e = .returned (.tuple #[]) ∧ Mod (fun i => ¬ F i) w w' ∧ ∃ pv qv st, Wk B F w' k pv qv (.bool true) st := by
  refine opq fun R HR => ?_
  have e2 := K.blk.at_ (i := 2) _ rfl
  have f2 := K.blk.free 2
  have KM := Lib.hid (K.mark (.bool true))
  clear K
  go_enter Tryz.func41, Tryz.ntmps41
  go_wp2
  exact bodyPost_ret (v := .tuple #[]) (by simp [results, Tryz.results41, go_sem]) rfl (HR.out _ _ ⟨rfl, KM.out.2, ⟨_, _, _, KM.out.1⟩⟩)
set_option maxHeartbeats 32000000 in
theorem look_step {w0 : World} {a : Option Addr} {n c : Nat} {nd : Nat → Int × List (Int × Int)} (ND : Nds w0 a n nd) (hN : ∀ i, (nd i).2.length ≤ 15) (hU : ∀ i, ∀ x ∈ (nd i).2, U64 x.1 ∧ U64 x.2) (hn : n ≤ 511) (k m : Nat)
    (ih : ∀ (p lvl fi hi : Int) (has : Bool) (st : WSt) (F : Nat → Prop) (w : World) (pv qv : Value), I64 p → -1 ≤ lvl → lvl < m → (lvl < 0 → 9 ≤ m) → Same w0 w → (∀ i, i < w0.heap.size → F i) → Wk w0.heap.size F w k pv qv (.bool false) st →
      Calls Tryz.prog 41 #[bp k, .slice a n c, .int .i64 p, .int .i64 lvl, .int .u64 fi, .bool has, .int .u64 hi] w fun e w' => e = .returned (.tuple #[]) ∧ Mod (fun i => ¬ F i) w w' ∧ LookT w0.heap.size F w' k (lookN nd n m p lvl fi has hi st))
    (p lvl fi hi : Int) (has : Bool) (st : WSt) (F : Nat → Prop) (w : World) (pv qv : Value) (hp : I64 p) (hl1 : -1 ≤ lvl) (hl2 : lvl < m + 1) (hl3 : lvl < 0 → 9 ≤ m + 1) (M0 : Same w0 w) (hF : ∀ i, i < w0.heap.size → F i) (K0 : Wk w0.heap.size F w k pv qv (.bool false) st) :
      Calls Tryz.prog 41 #[bp k, .slice a n c, .int .i64 p, .int .i64 lvl, .int .u64 fi, .bool has, .int .u64 hi] w fun e w' => e = .returned (.tuple #[]) ∧ Mod (fun i => ¬ F i) w w' ∧ LookT w0.heap.size F w' k (lookN nd n (m + 1) p lvl fi has hi st) := by
  refine opq fun R HR => ?_
  have IH := Lib.hid ih
  have HFl := Lib.hid hF
  have N0 := Lib.hid M0
  have HND := Lib.hid ND
  have HNl := Lib.hid hN
  have HUl := Lib.hid hU
  obtain ⟨pa, pc, rfl, hpi⟩ := ins_own K0.po
  have HPi := Lib.hid hpi
  have hshort := K0.short
  have hqn := K0.qn
  have K := Lib.hid K0
  have e20 := K0.blk.at_ (i := 2) _ rfl
  have f20 := K0.blk.free 2
  have e00 := K0.blk.at_ (i := 0) _ rfl
  clear ih hF M0 ND hN hU hpi K0
  by_cases h1 : p < 1
  · have hres : lookN nd n (m + 1) p lvl fi has hi st = none := by unfold lookN; rw [if_pos (.inl h1)]
    rw [hres] at HR
    have g1 : decide (p < 1) = true := decide_eq_true h1
    have KM := Lib.hid (K.out.mark (.bool true))
    clear hres
    go_enter Tryz.func41, Tryz.ntmps41
    go_wp2
    exact bodyPost_ret (v := .tuple #[]) (by simp [results, Tryz.results41, go_sem]) rfl (HR.out _ _ ⟨rfl, KM.out.2, ⟨_, _, _, KM.out.1⟩⟩)
  have g1 : decide (p < 1) = false := decide_eq_false h1
  by_cases h2 : (n : Int) < p
  · have hres : lookN nd n (m + 1) p lvl fi has hi st = none := by unfold lookN; rw [if_pos (.inr h2)]
    rw [hres] at HR
    have g2 : decide ((n : Int) < p) = true := decide_eq_true h2
    have KM := Lib.hid (K.out.mark (.bool true))
    clear hres
    go_enter Tryz.func41, Tryz.ntmps41
    go_wp2
    exact bodyPost_ret (v := .tuple #[]) (by simp [results, Tryz.results41, go_sem]) rfl (HR.out _ _ ⟨rfl, KM.out.2, ⟨_, _, _, KM.out.1⟩⟩)
  have g2 : decide ((n : Int) < p) = false := decide_eq_false h2
  have hpb : 1 ≤ p ∧ p ≤ n := by omega
  have hres0 : lookN nd n (m + 1) p lvl fi has hi st = if st.1.contains p = true then none
    else if lookOk lvl fi (nd (p.toNat - 1)).1 (nd (p.toNat - 1)).2 then lookK (fun x h e st => lookN nd n m x.2 ((nd (p.toNat - 1)).1 - 1) x.1 e h st) has hi (nd (p.toNat - 1)).1 (nd (p.toNat - 1)).2 (st.1 ++ [p], st.2)
    else none := by
    rw [lookN]
    rw [if_neg (by omega)]
  rw [hres0] at HR
  obtain ⟨np, hnp⟩ : ∃ z, st.1.length = z := ⟨_, rfl⟩
  have HNP := Lib.hid hnp
  rw [hnp] at hshort hqn e00
  clear hres0 hnp h1 h2
  have HRR := Lib.hid HR
  clear HR
  go_enter Tryz.func41, Tryz.ntmps41
  go_wp2_with fail
  go_loopw [14] (fun vi wr => ∃ i : Nat, i ≤ np ∧ vi = .int .i64 (i : Int) ∧ p ∉ st.1.take i ∧ wr = w) (fun vi _ => np - (intOf vi).toNat)
  case atStart => exact ⟨0, by omega, rfl, by simp, rfl⟩
  case round =>
    obtain ⟨i, hi0, rfl, hno, rfl⟩ := hrel
    have HNo := Lib.hid hno
    clear hno
    by_cases hlt : i < np
    · obtain ⟨pb, po, rfl, hpb1, hpc⟩ := HPi.out (by rw [HNP.out]; omega)
      obtain ⟨y, hy⟩ : ∃ y, st.1[i]? = some y := ⟨_, List.getElem?_eq_getElem (by rw [HNP.out]; exact hlt)⟩
      have d0 := hpc i y hy
      have HY := Lib.hid hy
      clear hpc hy
      by_cases hyp : y = p
      · have HR := HRR.out.out
        rw [if_pos (by rw [List.contains_iff_mem, ← hyp]; exact List.mem_of_getElem? HY.out)] at HR
        have HR := Lib.hid HR
        have KM := Lib.hid (K.out.mark (.bool true))
        subst hyp
        go_wp2
        exact bodyPost_ret (v := .tuple #[]) (by simp [results, Tryz.results41, go_sem]) rfl (HR.out _ _ ⟨rfl, KM.out.2, ⟨_, _, _, KM.out.1⟩⟩)
      · have hb : (y == p) = false := beq_eq_false_iff_ne.2 hyp
        have HN2 := Lib.hid (show p ∉ st.1.take (i + 1) by
          rw [List.take_add_one, HY.out, List.mem_append]
          rintro (h | h)
          · exact HNo.out h
          · simp at h; exact hyp h.symm)
        clear hyp
        go_wp2_with fail
        go_roundw
        case rel => exact ⟨i + 1, by omega, by go_num, HN2.out, trivial⟩
        case measure => simp [intOf]; omega
    · obtain rfl : i = np := by omega
      have hpn : p ∉ st.1 := by
        have := HNo.out
        rwa [List.take_of_length_le (by rw [HNP.out]; exact Nat.le_refl _)] at this
      have HR1 := HRR.out.out
      rw [if_neg (by simpa using hpn)] at HR1
      have HR := Lib.hid HR1
      obtain ⟨q, rfl⟩ : ∃ q : Nat, p = ((q + 1 : Nat) : Int) := ⟨p.toNat - 1, by omega⟩
      rw [show ((q + 1 : Nat) : Int).toNat - 1 = q by omega] at HR
      have hq : q < n := by omega
      obtain ⟨lv, hlv⟩ : ∃ z, (nd q).1 = z := ⟨_, rfl⟩
      obtain ⟨L, hL⟩ : ∃ z, (nd q).2 = z := ⟨_, rfl⟩
      have hl15 : L.length ≤ 15 := by rw [← hL]; exact HNl.out q
      have HUL := Lib.hid (show ∀ x ∈ L, U64 x.1 ∧ U64 x.2 by rw [← hL]; exact HUl.out q)
      obtain ⟨bn, on, rfl, hbn, hcn⟩ := HND.out (by omega)
      obtain ⟨va, vc, n0, n1, hPr⟩ := hcn q hq
      rw [hlv] at n0
      rw [hL] at n1 hPr
      rw [hlv, hL] at HR
      have HPr := Lib.hid hPr
      obtain ⟨nl, hnl⟩ : ∃ z, L.length = z := ⟨_, rfl⟩
      have HNL := Lib.hid hnl
      rw [hnl] at n1 hl15
      have HN0 := Lib.hid n0
      have HN1 := Lib.hid n1
      obtain ⟨i3, hi3, hz30, hz31, hz32⟩ := info_parts info3
      have I3 := Lib.hid hi3
      have Z30 := Lib.hid hz30
      have Z31 := Lib.hid hz31
      have Z32 := Lib.hid hz32
      have hw0 : w0.heap.size ≤ wr.heap.size := N0.out.size
      have hFb := HFl.out bn hbn
      clear hi3 hz30 hz31 hz32 hcn n0 n1 hPr hnl hlv hL HR1 HRR HNo
      have OP := Lib.hid K.out.po
      rw [HNP.out] at OP
      have hbnr : bn < wr.heap.size := Nat.lt_of_lt_of_le hbn hw0
      go_upto_region 9 with (at_builtin; refine wpList_append_lies _ rfl (.tmp 60) (.tmp 62) 32 rfl w0.heap.size 3 i3 (.int .i64 0) 1 8 Tryz.underlying32 I3.out Z30.out Z31.out Z32.out rfl (by decide) _ i _ rfl (OP.out.alloc _) ⟨wr.heap.size, 0, none⟩ 1 1 [.int .i64 ((q + 1 : Nat) : Int)] rfl rfl (one_i64 wr _ 3) (i64_cell _) (by decide) (by unfold maxLen; omega) (by omega) (by simp only [World.size_alloc]; omega) _ rfl ?_; intro g cap w6 hown6 hgrow hgb hglt; rw [← HNP.out] at hown6 hgrow hgb ⊢; have B6 := blk_grown (K.out.blk.alloc _) hgrow (fun e => (K.out.pf k e).1 rfl); have e60 := B6.at_ (i := 0) _ rfl; have f60 := B6.free 0; have PU := Lib.hid (K.out.push1 ((Mod.refl (fun _ => False) wr).alloc (.cells #[.int .i64 ((q + 1 : Nat) : Int)] 3)) hgrow hown6 (hgb.imp (fun q => q) (fun q => by rw [q]; simp)) hpn (by omega)); have n60 := (PU.out.2.cell (b := bn) hbnr (fun r => r hFb) _).trans ((N0.out.cell hbn (fun q => q) _).trans HN0.out); have n61 := (PU.out.2.cell (b := bn) hbnr (fun r => r hFb) _).trans ((N0.out.cell hbn (fun q => q) _).trans HN1.out); clear B6 hown6 hgrow hgb hglt)
      have hs7 : (w6.setCell ⟨k, 0, none⟩ (.slice (some ⟨g, 0, none⟩) (st.1.length + 1) cap)).heap.size = w6.heap.size := by simp
      clear e60 f60 n60 n61
      generalize World.setCell _ _ _ = W7 at *
      have Y8 := Lib.hid (Blk.new W7 #[.int .i64 lv, .slice va nl vc] 75)
      have M8 := Lib.hid (show Same W7 (W7.alloc (.cells #[.int .i64 lv, .slice va nl vc] 75)) from (Mod.refl _ _).alloc _)
      have hP7 : Prs W7 va L := HPr.out.same (N0.out.then_ PU.out.2 (fun i hi r => r (HFl.out i hi)))
      have HGd := Lib.hid (rgood5_any lv va vc L _ (by rw [HNL.out]; omega) (hP7.same M8.out))
      have P8 := Lib.hid (hP7.same M8.out)
      rw [HNL.out] at HGd
      have hw7 : wr.heap.size ≤ W7.heap.size := PU.out.2.size
      have y80 := Y8.out.at_ (i := 0) _ rfl
      have y81 := Y8.out.at_ (i := 1) _ rfl
      rw [hs7] at y80 y81 Y8
      go_cut [113] (fun v wx => v = .bool (!decide (lookOk lvl fi lv L)) ∧ Same (W7.alloc (.cells #[.int .i64 lv, .slice va nl vc] 75)) wx)
      case first =>
        go_wp2_with fail
        refine HGd.out.mono ?_
        rintro e w9 ⟨rfl, M⟩
        have MH := Lib.hid M
        have y90 := (Y8.out.mod M (fun r => r)).at_ (i := 0) _ rfl
        have y91 := (Y8.out.mod M (fun r => r)).at_ (i := 1) _ rfl
        have P9 := Lib.hid (P8.out.same M)
        clear M HGd y80 y81 HR IH
        cases hg : goodL lv L with
        | false =>
          have hno : decide (lookOk lvl fi lv L) = false := decide_eq_false (fun r => by unfold lookOk at r; rw [hg] at r; simp at r)
          have HNo := Lib.hid hno
          clear hno
          go_wp2_with fail
          go_meet
          case rel => exact ⟨by rw [HNo.out]; rfl, MH.out⟩
        | true =>
          by_cases hn0 : nl = 0
          · have hb0 : ((nl : Int) == 0) = true := by simp [hn0]
            have hno : decide (lookOk lvl fi lv L) = false := decide_eq_false (fun r => by unfold lookOk at r; exact r.2.1 (by rw [HNL.out]; exact hn0))
            have HNo := Lib.hid hno
            clear hno
            go_wp2_with fail
            go_meet
            case rel => exact ⟨by rw [HNo.out]; rfl, MH.out⟩
          · have hb0 : ((nl : Int) == 0) = false := beq_eq_false_iff_ne.2 (by omega)
            obtain ⟨vb, vo, rfl, hvb, hvc⟩ := P9.out (by rw [HNL.out]; omega)
            obtain ⟨x0, hx0⟩ : ∃ x, L[0]? = some x := ⟨_, List.getElem?_eq_getElem (by rw [HNL.out]; omega)⟩
            have gx : L.getD 0 (0, 0) = x0 := by rw [List.getD_eq_getElem?_getD, hx0]; rfl
            have cx := (hvc 0 x0 hx0).1
            rw [Nat.zero_mul, Nat.add_zero] at cx
            have GX := Lib.hid gx
            clear hvc hx0 gx
            by_cases hlv0 : 0 ≤ lvl
            · have g5 : decide (0 ≤ lvl) = true := decide_eq_true hlv0
              have g5' : decide (lvl ≥ 0) = true := decide_eq_true hlv0
              have g8 : decide (lvl < 0) = false := decide_eq_false (by omega)
              by_cases hle : lv = lvl
              · have h6 : (lv != lvl) = false := by simp [hle]
                have h6' : (lv == lvl) = true := by simp [hle]
                by_cases hfi : x0.1 = fi
                · have h7 : (x0.1 != fi) = false := by simp [hfi]
                  have h7' : (x0.1 == fi) = true := by simp [hfi]
                  have HLe := Lib.hid hle
                  have HFi := Lib.hid hfi
                  clear hle hfi
                  have hok : decide (lookOk lvl fi lv L) = true := decide_eq_true (by unfold lookOk; exact ⟨hg, by rw [HNL.out]; exact hn0, fun _ => ⟨HLe.out, by rw [GX.out]; exact HFi.out⟩, fun h => by omega⟩)
                  have HOk := Lib.hid hok
                  clear hok
                  go_wp2_with fail
                  go_meet
                  case rel => exact ⟨by rw [HOk.out]; rfl, MH.out⟩
                · have h7 : (x0.1 != fi) = true := by simp [hfi]
                  have h7' : (x0.1 == fi) = false := by simp [hfi]
                  have HLe := Lib.hid hle
                  have HFi := Lib.hid hfi
                  clear hle hfi
                  have hno : decide (lookOk lvl fi lv L) = false := decide_eq_false (fun r => by unfold lookOk at r; exact HFi.out (by rw [← GX.out]; exact (r.2.2.1 hlv0).2))
                  have HNo := Lib.hid hno
                  clear hno
                  go_wp2_with fail
                  go_meet
                  case rel => exact ⟨by rw [HNo.out]; rfl, MH.out⟩
              · have h6 : (lv != lvl) = true := by simp [hle]
                have h6' : (lv == lvl) = false := by simp [hle]
                have HLe := Lib.hid hle
                clear hle
                have hno : decide (lookOk lvl fi lv L) = false := decide_eq_false (fun r => by unfold lookOk at r; exact HLe.out (r.2.2.1 hlv0).1)
                have HNo := Lib.hid hno
                clear hno
                go_wp2_with fail
                go_meet
                case rel => exact ⟨by rw [HNo.out]; rfl, MH.out⟩
            · have g5 : decide (0 ≤ lvl) = false := decide_eq_false hlv0
              have g5' : decide (lvl ≥ 0) = false := decide_eq_false hlv0
              have g8 : decide (lvl < 0) = true := decide_eq_true (by omega)
              by_cases hlp : 0 < lv
              · have g9 : decide (0 < lv) = true := decide_eq_true hlp
                by_cases hn2 : nl < 2
                · have g10 : decide (nl < 2) = true := decide_eq_true hn2
                  have g11 : decide ((nl : Int) < 2) = true := decide_eq_true (by omega)
                  have hno : decide (lookOk lvl fi lv L) = false := decide_eq_false (fun r => by unfold lookOk at r; have h9 := r.2.2.2 (by omega) hlp; rw [HNL.out] at h9; omega)
                  have HNo := Lib.hid hno
                  clear hno
                  go_wp2_with fail
                  go_meet
                  case rel => exact ⟨by rw [HNo.out]; rfl, MH.out⟩
                · have g10 : decide (nl < 2) = false := decide_eq_false hn2
                  have g11 : decide ((nl : Int) < 2) = false := decide_eq_false (by omega)
                  have hok : decide (lookOk lvl fi lv L) = true := decide_eq_true (by unfold lookOk; exact ⟨hg, by rw [HNL.out]; exact hn0, fun h => absurd h hlv0, fun _ _ => by rw [HNL.out]; omega⟩)
                  have HOk := Lib.hid hok
                  clear hok
                  go_wp2_with fail
                  go_meet
                  case rel => exact ⟨by rw [HOk.out]; rfl, MH.out⟩
              · have g9 : decide (0 < lv) = false := decide_eq_false hlp
                have hok : decide (lookOk lvl fi lv L) = true := decide_eq_true (by unfold lookOk; exact ⟨hg, by rw [HNL.out]; exact hn0, fun h => absurd h hlv0, fun _ h => absurd h hlp⟩)
                have HOk := Lib.hid hok
                clear hok
                go_wp2_with fail
                go_meet
                case rel => exact ⟨by rw [HOk.out]; rfl, MH.out⟩
      case rest =>
        obtain ⟨rfl, M⟩ := hcut
        have MH := Lib.hid (M8.out.same M)
        have hw9 : W7.heap.size ≤ wc.heap.size := MH.out.size
        have Y9 := Lib.hid (Y8.out.mod M (fun r => r))
        have KX := Lib.hid (PU.out.1.same MH.out)
        have K9 := Lib.hid (PU.out.1.more MH.out)
        have MP := Lib.hid (PU.out.2.same MH.out)
        have hs9 := Y9.out.lt
        clear M HGd y80 y81 P8
        by_cases hok : lookOk lvl fi lv L
        · rw [if_pos hok] at HR
          have hgd := good_len hok.1
          have HVl := Lib.hid (fun h => good_vals hok.1 h)
          rw [decide_eq_true hok]
          have hln : L.length ≠ 0 := hok.2.1
          rw [HNL.out] at hln
          have NS9 := Lib.hid (N0.out.then_ MP.out (fun i hi r => r (HFl.out i hi)) : Same w0 wc)
          obtain ⟨res, hres⟩ : ∃ z, lookK (fun x h e st => lookN nd n m x.2 (lv - 1) x.1 e h st) has hi lv L (st.1 ++ [((q + 1 : Nat) : Int)], st.2) = z := ⟨_, rfl⟩
          rw [hres] at HR
          have HRes := Lib.hid hres
          have hlvm : lv < m + 1 ∧ (lv ≠ 0 → 9 ≤ m + 1 ∨ lvl = lv) := by
            have h3 := hok.2.2.1
            refine ⟨?_, fun _ => ?_⟩
            · by_cases q0 : 0 ≤ lvl
              · have := (h3 q0).1; omega
              · have := hl3 (by omega); omega
            · by_cases q0 : 0 ≤ lvl
              · exact .inr (h3 q0).1.symm
              · exact .inl (hl3 (by omega))
          clear hres hok
          have hq2 : st.2.length ≤ 15 * st.1.length := by rw [HNP.out]; exact hqn
          go_wp2_with fail
          go_loopw [16] (fun vi wr => ∃ i : Nat, i ≤ nl ∧ vi = .int .i64 (i : Int) ∧ Mod (fun j => ¬ (F j ∨ (W7.heap.size ≤ j ∧ j < wc.heap.size))) wc wr ∧ AltK w0.heap.size (fun j => F j ∨ (W7.heap.size ≤ j ∧ j < wc.heap.size)) k (fun x h e st => lookN nd n m x.2 (lv - 1) x.1 e h st) has hi lv (L.drop i) res i wr) (fun vi _ => nl - (intOf vi).toNat)
          case atStart => exact ⟨0, by omega, rfl, Mod.refl _ _, .inl ⟨_, _, _, K9.out, HRes.out, fun _ => by simp; omega⟩⟩
          case round =>
            obtain ⟨i', hi1, rfl, hMr, hAl⟩ := hrel
            have MR := Lib.hid hMr
            have AR := Lib.hid hAl
            have hwr9 : wc.heap.size ≤ wr.heap.size := hMr.size
            have YR := Lib.hid (Y9.out.mod hMr (fun r => r (.inr ⟨by omega, hs9⟩)))
            have y0 := YR.out.at_ (i := 0) _ rfl
            have y1 := YR.out.at_ (i := 1) _ rfl
            have hy15 : w6.heap.size < wr.heap.size := YR.out.lt
            have NSr := Lib.hid (NS9.out.then_ hMr (fun i hi r => r (.inl (HFl.out i hi))) : Same w0 wr)
            clear hMr hAl
            by_cases hlt : i' < nl
            · obtain ⟨vb, vo, rfl, hvb, hvc⟩ := HPr.out (by rw [HNL.out]; omega)
              obtain ⟨wo, hwo⟩ : ∃ wo, wo = wr := ⟨wr, rfl⟩
              subst hwo
              obtain ⟨w9, hw9e⟩ : ∃ z, z = wc := ⟨wc, rfl⟩
              subst hw9e
              obtain ⟨x, hx⟩ : ∃ x, L[i']? = some x := ⟨_, List.getElem?_eq_getElem (by rw [HNL.out]; exact hlt)⟩
              have hdx : L.drop i' = x :: L.drop (i' + 1) := by
                have := List.drop_eq_getElem_cons (l := L) (i := i') (by rw [HNL.out]; exact hlt)
                rw [this]
                congr 1
                exact (List.getElem?_eq_some_iff.1 hx).2
              have hvbr : vb < wo.heap.size := Nat.lt_of_lt_of_le hvb NSr.out.size
              have c0 := (NSr.out.cell hvb (fun r => r) _).trans (hvc i' x hx).1
              have c1 := (NSr.out.cell hvb (fun r => r) _).trans (hvc i' x hx).2
              have HX := Lib.hid hx
              have HDx := Lib.hid hdx
              have HVc := Lib.hid hvc
              have MA := Lib.hid (show Same wo (wo.alloc (.cells #[.int .u64 x.1, .int .u64 x.2] 123)) from (Mod.refl _ _).alloc _)
              have XA := Lib.hid (Blk.new wo #[.int .u64 x.1, .int .u64 x.2] 123)
              have xa0 := XA.out.at_ (i := 0) _ rfl
              have xa1 := XA.out.at_ (i := 1) _ rfl
              clear hx hdx hvc
              go_upto_region 15 with fail
              go_cut [135] (fun v wx => v = .bool (decide (has = true ∧ hi ≤ x.1)) ∧ wx = wo.alloc (.cells #[.int .u64 x.1, .int .u64 x.2] 123))
              case first =>
                cases has with
                | false =>
                  go_wp2_with fail
                  go_meet
                  case rel => exact ⟨by simp, rfl⟩
                | true =>
                  by_cases hhi : hi ≤ x.1
                  · have d1 : decide (x.1 ≥ hi) = true := decide_eq_true hhi
                    have d2 : decide (hi ≤ x.1) = true := decide_eq_true hhi
                    go_wp2_with fail
                    go_meet
                    case rel => exact ⟨by simp [hhi], rfl⟩
                  · have d1 : decide (x.1 ≥ hi) = false := decide_eq_false hhi
                    have d2 : decide (hi ≤ x.1) = false := decide_eq_false hhi
                    go_wp2_with fail
                    go_meet
                    case rel => exact ⟨by simp [hhi], rfl⟩
              case rest =>
                obtain ⟨rfl, rfl⟩ := hcut
                by_cases hh : has = true ∧ hi ≤ x.1
                · rw [decide_eq_true hh]
                  have key : res = none ∧ ∃ pv qv c2 st, Wk w0.heap.size (fun j => F j ∨ (W7.heap.size ≤ j ∧ j < w9.heap.size)) (wo.alloc (.cells #[.int .u64 x.1, .int .u64 x.2] 123)) k pv qv c2 st := by
                    rcases AR.out with ⟨pv', qv', st', hw', he', _⟩ | ⟨he', _, pv', qv', st', hw'⟩
                    · rw [HDx.out, lookK_cons, if_pos hh] at he'
                      exact ⟨he'.symm, _, _, _, _, hw'.same MA.out⟩
                    · exact ⟨he', _, _, _, _, hw'.same MA.out⟩
                  obtain ⟨hrn, pv', qv', c2, st', hWK⟩ := key
                  rw [hrn] at HR
                  have z2 := hWK.blk.at_ (i := 2) _ rfl
                  have z2f := hWK.blk.free 2
                  have KM := Lib.hid (hWK.mark (.bool true))
                  clear hWK hh hrn
                  go_wp2_with fail
                  exact bodyPost_ret (v := .tuple #[]) (by simp [results, Tryz.results41, go_sem]) rfl (HR.out _ _ ⟨rfl, MP.out.then_ ((MR.out.same MA.out).then_ KM.out.2 (fun _ _ r => r)) (fun i hi r s => r (.inl s)), ⟨_, _, _, KM.out.1.less (fun i r => .inl r)⟩⟩)
                · rw [decide_eq_false hh]
                  have HH := Lib.hid hh
                  have yA := YR.out.alloc (.cells #[.int .u64 x.1, .int .u64 x.2] 123)
                  have yA0 := yA.at_ (i := 0) _ rfl
                  have yA1 := yA.at_ (i := 1) _ rfl
                  clear hh yA
                  by_cases hlv0 : lv = 0
                  · have g0 : (lv == 0) = true := by simp [hlv0]
                    have HLv0 := Lib.hid hlv0
                    have key : ∃ pv qv st', Wk w0.heap.size (fun j => F j ∨ (W7.heap.size ≤ j ∧ j < w9.heap.size)) wo k pv qv (.bool false) st' ∧ lookK (fun x h e st => lookN nd n m x.2 (lv - 1) x.1 e h st) has hi lv (L.drop (i' + 1)) (st'.1, st'.2 ++ [x]) = res ∧ st'.2.length + 15 ≤ 15 * st'.1.length + i' := by
                      rcases AR.out with ⟨pv', qv', st', hw', he', hb'⟩ | ⟨_, h0, _⟩
                      · rw [HDx.out, lookK_cons, if_neg HH.out, if_pos hlv0] at he'
                        exact ⟨pv', qv', st', hw', he', hb' hlv0⟩
                      · exact absurd hlv0 h0
                    obtain ⟨pv', qv', st', hw', he', hb'⟩ := key
                    have KW := Lib.hid (hw'.same MA.out)
                    have HE := Lib.hid he'
                    have k1 := KW.out.blk.at_ (i := 1) _ rfl
                    have hsh := KW.out.short
                    have hkx := KW.out.blk.lt
                    have NX := Lib.hid (NSr.out.same MA.out)
                    have hwo0 : w0.heap.size ≤ (wo.alloc (.cells #[.int .u64 x.1, .int .u64 x.2] 123)).heap.size := NX.out.size
                    obtain ⟨i123, hi, hz0, hz1, hz2⟩ := info_parts info123'
                    have I0 := Lib.hid hi
                    have Z0 := Lib.hid hz0
                    have Z1 := Lib.hid hz1
                    have Z2 := Lib.hid hz2
                    clear hlv0 hw' he' hi hz0 hz1 hz2
                    go_wp2_with fail
                    generalize wo.alloc _ = WX at *
                    refine wp_region_held_drew (S := fun w' => True) (by kernel_rfl) (by (try dsimp only); all_goals trivial) (fun hHeld => ?_)
                    refine wpAnyH_take (i := 0) (v := ?_) rfl (by kernel_rfl) (by kernel_rfl) (by kernel_rfl) (fun _ _ _ h => h) (Or.inl ⟨by rfl, ?_⟩) (by assumption) ?_
                    rotate_left
                    · intro w hSw
                      try dsimp only at hSw
                      go_simp
                      try with_reducible rfl
                    try simp only [List.getElem_toArray, List.getElem_cons_succ, List.getElem_cons_zero, Act.put, List.setIfInBounds_toArray, List.set_cons_zero, List.set_cons_succ]
                    refine wpAnyH_take (i := 1) (v := ?_) rfl (by kernel_rfl) (by kernel_rfl) (by kernel_rfl) (fun _ _ _ h => h) (Or.inl ⟨by rfl, ?_⟩) (by assumption) ?_
                    rotate_left
                    · intro w hSw
                      try dsimp only at hSw
                      go_simp
                      try with_reducible rfl
                    try simp only [List.getElem_toArray, List.getElem_cons_succ, List.getElem_cons_zero, Act.put, List.setIfInBounds_toArray, List.set_cons_zero, List.set_cons_succ]
                    refine wpAnyH_take (i := 2) (v := ?_) rfl (by kernel_rfl) (by kernel_rfl) (by kernel_rfl) (fun _ _ _ h => h) (Or.inl ⟨by rfl, ?_⟩) (by assumption) ?_
                    rotate_left
                    · intro w hSw
                      try dsimp only at hSw
                      go_simp
                      try with_reducible rfl
                    try simp only [List.getElem_toArray, List.getElem_cons_succ, List.getElem_cons_zero, Act.put, List.setIfInBounds_toArray, List.set_cons_zero, List.set_cons_succ]
                    refine wpAnyH_take (i := 3) (v := ?_) rfl (by kernel_rfl) (by kernel_rfl) (by kernel_rfl) (fun _ _ _ h => h) (Or.inl ⟨by rfl, ?_⟩) (by assumption) ?_
                    rotate_left
                    · intro w hSw
                      try dsimp only at hSw
                      go_simp
                      try with_reducible rfl
                    try simp only [List.getElem_toArray, List.getElem_cons_succ, List.getElem_cons_zero, Act.put, List.setIfInBounds_toArray, List.set_cons_zero, List.set_cons_succ]
                    refine wpAnyH_ready (rs := [4, 5]) (by kernel_rfl) (by simp) ?_
                    refine AllReadyH.cons rfl (fun Kc hKc => ?_) (AllReadyH.cons rfl (fun Kc hKc => ?_) (AllReadyH.nil))
                    · go_simp
                      refine hKc.out _ _ (by (try dsimp only); all_goals trivial) (fun hHeld => ?_)
                      clear hKc Kc
                      try simp only [List.getElem_toArray, List.getElem_cons_succ, List.getElem_cons_zero, Act.put, List.setIfInBounds_toArray, List.set_cons_zero, List.set_cons_succ]
                      refine wpAnyH_ready (rs := [5]) (by kernel_rfl) (by simp) ?_
                      refine AllReadyH.cons rfl (fun Kc hKc => ?_) AllReadyH.nil
                      go_simp
                      refine hKc.out _ _ (by (try dsimp only); all_goals trivial) (fun hHeld => ?_)
                      clear hKc Kc
                      try simp only [List.getElem_toArray, List.getElem_cons_succ, List.getElem_cons_zero, Act.put, List.setIfInBounds_toArray, List.set_cons_zero, List.set_cons_succ]
                      refine wpAnyH_ready (rs := [6]) (by kernel_rfl) (by simp) ?_
                      refine AllReadyH.cons rfl (fun Kc hKc => ?_) AllReadyH.nil
                      go_simp
                      refine hKc.out _ _ (by (try dsimp only); all_goals trivial) (fun hHeld => ?_)
                      clear hKc Kc
                      try simp only [List.getElem_toArray, List.getElem_cons_succ, List.getElem_cons_zero, Act.put, List.setIfInBounds_toArray, List.set_cons_zero, List.set_cons_succ]
                      refine wpAnyH_ready (rs := [7]) (by kernel_rfl) (by simp) ?_
                      refine AllReadyH.cons rfl (fun Kc hKc => ?_) AllReadyH.nil
                      refine step_append_lies _ rfl (.tmp 146) (.tmp 148) 68 rfl w0.heap.size 123 i123 (.agg #[.int .u64 0, .int .u64 0]) 2 16 Tryz.underlying68 I0.out Z0.out Z1.out Z2.out rfl (by decide) qv' st'.2.length _ (by simp [Act.eval, Act.put]) (own_drew (KW.out.qo.alloc _)) ⟨WX.heap.size, 0, none⟩ 1 1 [.int .u64 x.1, .int .u64 x.2] (by simp [Act.eval, Act.put]) rfl (pr_new WX x.1 x.2 123) (pr_cells x.1 x.2) (by decide) (by unfold maxLen; omega) (by omega) (by simp; omega) (WX.heap.size + 1) (by simp) ?_
                      intro g5 cap5 w5 hown5 hgrow hgb hgl
                      have B5 := blk_grown ((KW.out.blk.alloc (.cells #[.int .u64 x.1, .int .u64 x.2] 123)).drew) hgrow (fun e => (KW.out.qf k e).1 rfl)
                      have d51 := B5.at_ (i := 1) _ rfl
                      have f51 := B5.free 1
                      have PV := Lib.hid (KW.out.push2 (L := [x]) (((Mod.refl (fun _ => False) WX).alloc (.cells #[.int .u64 x.1, .int .u64 x.2] 123)).drew) hgrow hown5 (hgb.imp (fun r => r) (fun r => by rw [r]; simp)) (by simp only [List.length_cons, List.length_nil]; omega) (fun y hy => by simp at hy; subst hy; exact HUL.out _ (List.mem_of_getElem? HX.out)))
                      clear hown5 hgrow B5
                      refine hKc.out _ _ (by (try dsimp only); all_goals trivial) (fun hHeld => ?_)
                      clear hKc Kc
                      try simp only [List.getElem_toArray, List.getElem_cons_succ, List.getElem_cons_zero, Act.put, List.setIfInBounds_toArray, List.set_cons_zero, List.set_cons_succ]
                      refine wpAnyH_take (i := 8) (v := ?_) rfl (by kernel_rfl) (by kernel_rfl) (by kernel_rfl) (fun _ _ _ h => h) (Or.inl ⟨by rfl, ?_⟩) (by assumption) ?_
                      rotate_left
                      · intro w hSw
                        try dsimp only at hSw
                        go_simp
                        try with_reducible rfl
                      try simp only [List.getElem_toArray, List.getElem_cons_succ, List.getElem_cons_zero, Act.put, List.setIfInBounds_toArray, List.set_cons_zero, List.set_cons_succ]
                      refine wpAnyH_take (i := 9) (v := ?_) rfl (by kernel_rfl) (by kernel_rfl) (by kernel_rfl) (fun _ _ _ h => h) (Or.inl ⟨by rfl, ?_⟩) (by assumption) ?_
                      rotate_left
                      · intro w hSw
                        try dsimp only at hSw
                        go_simp
                        try with_reducible rfl
                      try simp only [List.getElem_toArray, List.getElem_cons_succ, List.getElem_cons_zero, Act.put, List.setIfInBounds_toArray, List.set_cons_zero, List.set_cons_succ]
                      refine wpAnyH_ready (rs := [10]) (by kernel_rfl) (by simp) ?_
                      refine AllReadyH.cons rfl (fun Kc hKc => ?_) AllReadyH.nil
                      go_simp
                      refine hKc.out _ _ (by (try dsimp only); all_goals trivial) (fun hHeld => ?_)
                      clear hKc Kc
                      try simp only [List.getElem_toArray, List.getElem_cons_succ, List.getElem_cons_zero, Act.put, List.setIfInBounds_toArray, List.set_cons_zero, List.set_cons_succ]
                      refine wpAnyH_done (by kernel_rfl) ?_ _
                      go_wp2_with fail
                      go_roundw
                      case rel =>
                        (repeat apply Exists.intro)
                        exact ⟨⟨i' + 1, by omega, by go_num, MR.out.then_ ((MA.out.mono (fun _ _ q => q.elim)).then_ PV.out.2 (fun _ _ q => q)) (fun _ _ q => q), .inl ⟨_, _, _, PV.out.1, HE.out, fun _ => by simp only [List.length_append, List.length_cons, List.length_nil]; omega⟩⟩, rfl⟩
                      case measure => simp [intOf]; omega
                    · go_simp
                      refine hKc.out _ _ (by (try dsimp only); all_goals trivial) (fun hHeld => ?_)
                      clear hKc Kc
                      try simp only [List.getElem_toArray, List.getElem_cons_succ, List.getElem_cons_zero, Act.put, List.setIfInBounds_toArray, List.set_cons_zero, List.set_cons_succ]
                      refine wpAnyH_ready (rs := [4, 6]) (by kernel_rfl) (by simp) ?_
                      refine AllReadyH.cons rfl (fun Kc hKc => ?_) (AllReadyH.cons rfl (fun Kc hKc => ?_) (AllReadyH.nil))
                      · go_simp
                        refine hKc.out _ _ (by (try dsimp only); all_goals trivial) (fun hHeld => ?_)
                        clear hKc Kc
                        try simp only [List.getElem_toArray, List.getElem_cons_succ, List.getElem_cons_zero, Act.put, List.setIfInBounds_toArray, List.set_cons_zero, List.set_cons_succ]
                        refine wpAnyH_ready (rs := [6]) (by kernel_rfl) (by simp) ?_
                        refine AllReadyH.cons rfl (fun Kc hKc => ?_) AllReadyH.nil
                        go_simp
                        refine hKc.out _ _ (by (try dsimp only); all_goals trivial) (fun hHeld => ?_)
                        clear hKc Kc
                        try simp only [List.getElem_toArray, List.getElem_cons_succ, List.getElem_cons_zero, Act.put, List.setIfInBounds_toArray, List.set_cons_zero, List.set_cons_succ]
                        refine wpAnyH_ready (rs := [7]) (by kernel_rfl) (by simp) ?_
                        refine AllReadyH.cons rfl (fun Kc hKc => ?_) AllReadyH.nil
                        refine step_append_lies _ rfl (.tmp 146) (.tmp 148) 68 rfl w0.heap.size 123 i123 (.agg #[.int .u64 0, .int .u64 0]) 2 16 Tryz.underlying68 I0.out Z0.out Z1.out Z2.out rfl (by decide) qv' st'.2.length _ (by simp [Act.eval, Act.put]) (own_drew (KW.out.qo.alloc _)) ⟨WX.heap.size, 0, none⟩ 1 1 [.int .u64 x.1, .int .u64 x.2] (by simp [Act.eval, Act.put]) rfl (pr_new WX x.1 x.2 123) (pr_cells x.1 x.2) (by decide) (by unfold maxLen; omega) (by omega) (by simp; omega) (WX.heap.size + 1) (by simp) ?_
                        intro g5 cap5 w5 hown5 hgrow hgb hgl
                        have B5 := blk_grown ((KW.out.blk.alloc (.cells #[.int .u64 x.1, .int .u64 x.2] 123)).drew) hgrow (fun e => (KW.out.qf k e).1 rfl)
                        have d51 := B5.at_ (i := 1) _ rfl
                        have f51 := B5.free 1
                        have PV := Lib.hid (KW.out.push2 (L := [x]) (((Mod.refl (fun _ => False) WX).alloc (.cells #[.int .u64 x.1, .int .u64 x.2] 123)).drew) hgrow hown5 (hgb.imp (fun r => r) (fun r => by rw [r]; simp)) (by simp only [List.length_cons, List.length_nil]; omega) (fun y hy => by simp at hy; subst hy; exact HUL.out _ (List.mem_of_getElem? HX.out)))
                        clear hown5 hgrow B5
                        refine hKc.out _ _ (by (try dsimp only); all_goals trivial) (fun hHeld => ?_)
                        clear hKc Kc
                        try simp only [List.getElem_toArray, List.getElem_cons_succ, List.getElem_cons_zero, Act.put, List.setIfInBounds_toArray, List.set_cons_zero, List.set_cons_succ]
                        refine wpAnyH_take (i := 8) (v := ?_) rfl (by kernel_rfl) (by kernel_rfl) (by kernel_rfl) (fun _ _ _ h => h) (Or.inl ⟨by rfl, ?_⟩) (by assumption) ?_
                        rotate_left
                        · intro w hSw
                          try dsimp only at hSw
                          go_simp
                          try with_reducible rfl
                        try simp only [List.getElem_toArray, List.getElem_cons_succ, List.getElem_cons_zero, Act.put, List.setIfInBounds_toArray, List.set_cons_zero, List.set_cons_succ]
                        refine wpAnyH_take (i := 9) (v := ?_) rfl (by kernel_rfl) (by kernel_rfl) (by kernel_rfl) (fun _ _ _ h => h) (Or.inl ⟨by rfl, ?_⟩) (by assumption) ?_
                        rotate_left
                        · intro w hSw
                          try dsimp only at hSw
                          go_simp
                          try with_reducible rfl
                        try simp only [List.getElem_toArray, List.getElem_cons_succ, List.getElem_cons_zero, Act.put, List.setIfInBounds_toArray, List.set_cons_zero, List.set_cons_succ]
                        refine wpAnyH_ready (rs := [10]) (by kernel_rfl) (by simp) ?_
                        refine AllReadyH.cons rfl (fun Kc hKc => ?_) AllReadyH.nil
                        go_simp
                        refine hKc.out _ _ (by (try dsimp only); all_goals trivial) (fun hHeld => ?_)
                        clear hKc Kc
                        try simp only [List.getElem_toArray, List.getElem_cons_succ, List.getElem_cons_zero, Act.put, List.setIfInBounds_toArray, List.set_cons_zero, List.set_cons_succ]
                        refine wpAnyH_done (by kernel_rfl) ?_ _
                        go_wp2_with fail
                        go_roundw
                        case rel =>
                          (repeat apply Exists.intro)
                          exact ⟨⟨i' + 1, by omega, by go_num, MR.out.then_ ((MA.out.mono (fun _ _ q => q.elim)).then_ PV.out.2 (fun _ _ q => q)) (fun _ _ q => q), .inl ⟨_, _, _, PV.out.1, HE.out, fun _ => by simp only [List.length_append, List.length_cons, List.length_nil]; omega⟩⟩, rfl⟩
                        case measure => simp [intOf]; omega
                      · go_simp
                        refine hKc.out _ _ (by (try dsimp only); all_goals trivial) (fun hHeld => ?_)
                        clear hKc Kc
                        try simp only [List.getElem_toArray, List.getElem_cons_succ, List.getElem_cons_zero, Act.put, List.setIfInBounds_toArray, List.set_cons_zero, List.set_cons_succ]
                        refine wpAnyH_ready (rs := [4]) (by kernel_rfl) (by simp) ?_
                        refine AllReadyH.cons rfl (fun Kc hKc => ?_) AllReadyH.nil
                        go_simp
                        refine hKc.out _ _ (by (try dsimp only); all_goals trivial) (fun hHeld => ?_)
                        clear hKc Kc
                        try simp only [List.getElem_toArray, List.getElem_cons_succ, List.getElem_cons_zero, Act.put, List.setIfInBounds_toArray, List.set_cons_zero, List.set_cons_succ]
                        refine wpAnyH_ready (rs := [7]) (by kernel_rfl) (by simp) ?_
                        refine AllReadyH.cons rfl (fun Kc hKc => ?_) AllReadyH.nil
                        refine step_append_lies _ rfl (.tmp 146) (.tmp 148) 68 rfl w0.heap.size 123 i123 (.agg #[.int .u64 0, .int .u64 0]) 2 16 Tryz.underlying68 I0.out Z0.out Z1.out Z2.out rfl (by decide) qv' st'.2.length _ (by simp [Act.eval, Act.put]) (own_drew (KW.out.qo.alloc _)) ⟨WX.heap.size, 0, none⟩ 1 1 [.int .u64 x.1, .int .u64 x.2] (by simp [Act.eval, Act.put]) rfl (pr_new WX x.1 x.2 123) (pr_cells x.1 x.2) (by decide) (by unfold maxLen; omega) (by omega) (by simp; omega) (WX.heap.size + 1) (by simp) ?_
                        intro g5 cap5 w5 hown5 hgrow hgb hgl
                        have B5 := blk_grown ((KW.out.blk.alloc (.cells #[.int .u64 x.1, .int .u64 x.2] 123)).drew) hgrow (fun e => (KW.out.qf k e).1 rfl)
                        have d51 := B5.at_ (i := 1) _ rfl
                        have f51 := B5.free 1
                        have PV := Lib.hid (KW.out.push2 (L := [x]) (((Mod.refl (fun _ => False) WX).alloc (.cells #[.int .u64 x.1, .int .u64 x.2] 123)).drew) hgrow hown5 (hgb.imp (fun r => r) (fun r => by rw [r]; simp)) (by simp only [List.length_cons, List.length_nil]; omega) (fun y hy => by simp at hy; subst hy; exact HUL.out _ (List.mem_of_getElem? HX.out)))
                        clear hown5 hgrow B5
                        refine hKc.out _ _ (by (try dsimp only); all_goals trivial) (fun hHeld => ?_)
                        clear hKc Kc
                        try simp only [List.getElem_toArray, List.getElem_cons_succ, List.getElem_cons_zero, Act.put, List.setIfInBounds_toArray, List.set_cons_zero, List.set_cons_succ]
                        refine wpAnyH_take (i := 8) (v := ?_) rfl (by kernel_rfl) (by kernel_rfl) (by kernel_rfl) (fun _ _ _ h => h) (Or.inl ⟨by rfl, ?_⟩) (by assumption) ?_
                        rotate_left
                        · intro w hSw
                          try dsimp only at hSw
                          go_simp
                          try with_reducible rfl
                        try simp only [List.getElem_toArray, List.getElem_cons_succ, List.getElem_cons_zero, Act.put, List.setIfInBounds_toArray, List.set_cons_zero, List.set_cons_succ]
                        refine wpAnyH_take (i := 9) (v := ?_) rfl (by kernel_rfl) (by kernel_rfl) (by kernel_rfl) (fun _ _ _ h => h) (Or.inl ⟨by rfl, ?_⟩) (by assumption) ?_
                        rotate_left
                        · intro w hSw
                          try dsimp only at hSw
                          go_simp
                          try with_reducible rfl
                        try simp only [List.getElem_toArray, List.getElem_cons_succ, List.getElem_cons_zero, Act.put, List.setIfInBounds_toArray, List.set_cons_zero, List.set_cons_succ]
                        refine wpAnyH_ready (rs := [10]) (by kernel_rfl) (by simp) ?_
                        refine AllReadyH.cons rfl (fun Kc hKc => ?_) AllReadyH.nil
                        go_simp
                        refine hKc.out _ _ (by (try dsimp only); all_goals trivial) (fun hHeld => ?_)
                        clear hKc Kc
                        try simp only [List.getElem_toArray, List.getElem_cons_succ, List.getElem_cons_zero, Act.put, List.setIfInBounds_toArray, List.set_cons_zero, List.set_cons_succ]
                        refine wpAnyH_done (by kernel_rfl) ?_ _
                        go_wp2_with fail
                        go_roundw
                        case rel =>
                          (repeat apply Exists.intro)
                          exact ⟨⟨i' + 1, by omega, by go_num, MR.out.then_ ((MA.out.mono (fun _ _ q => q.elim)).then_ PV.out.2 (fun _ _ q => q)) (fun _ _ q => q), .inl ⟨_, _, _, PV.out.1, HE.out, fun _ => by simp only [List.length_append, List.length_cons, List.length_nil]; omega⟩⟩, rfl⟩
                        case measure => simp [intOf]; omega
                  · have g0 : (lv == 0) = false := beq_eq_false_iff_ne.2 hlv0
                    have hlvp : 0 < lv := by omega
                    have hxv := HVl.out hlvp x (List.mem_of_getElem? HX.out)
                    have key : ∃ Nx : Int → Bool → World → Prop, (∀ hh ee W', Same wo W' → Calls Tryz.prog 41 #[bp k, .slice (some ⟨bn, on, none⟩) n c, .int .i64 x.2, .int .i64 (lv - 1), .int .u64 x.1, .bool ee, .int .u64 hh] W' fun e w'' => e = .returned (.tuple #[]) ∧ Mod (fun j => ¬ (F j ∨ (W7.heap.size ≤ j ∧ j < w9.heap.size))) W' w'' ∧ Nx hh ee w'') ∧
                        (∀ w'', L.drop (i' + 1) = [] → Nx hi has w'' → AltK w0.heap.size (fun j => F j ∨ (W7.heap.size ≤ j ∧ j < w9.heap.size)) k (fun x h e st => lookN nd n m x.2 (lv - 1) x.1 e h st) has hi lv (L.drop (i' + 1)) res (i' + 1) w'') ∧
                        (∀ y r w'', L.drop (i' + 1) = y :: r → Nx y.1 true w'' → AltK w0.heap.size (fun j => F j ∨ (W7.heap.size ≤ j ∧ j < w9.heap.size)) k (fun x h e st => lookN nd n m x.2 (lv - 1) x.1 e h st) has hi lv (L.drop (i' + 1)) res (i' + 1) w'') := by
                      rcases AR.out with ⟨pv', qv', st', hw', he', _⟩ | ⟨he', h0, pv', qv', st', hw'⟩
                      · rw [HDx.out, lookK_cons, if_neg HH.out, if_neg hlv0] at he'
                        refine ⟨fun hh ee w'' => LookT w0.heap.size (fun j => F j ∨ (W7.heap.size ≤ j ∧ j < w9.heap.size)) w'' k (lookN nd n m x.2 (lv - 1) x.1 ee hh st'), fun hh ee W' MS => ?_, fun w'' hd hN => ?_, fun y r w'' hd hN => ?_⟩
                        · exact IH.out x.2 (lv - 1) x.1 hh ee st' _ W' pv' qv' (by unfold I64; omega) (by omega) (by omega) (by omega) (NSr.out.same MS) (fun j hj => .inl (HFl.out j hj)) (hw'.same MS)
                        · rw [hd] at he' ⊢
                          exact AltK.kid hN he' hlv0
                        · rw [hd] at he' ⊢
                          exact AltK.kid hN he' hlv0
                      · refine ⟨fun hh ee w'' => ∃ pv qv st, Wk w0.heap.size (fun j => F j ∨ (W7.heap.size ≤ j ∧ j < w9.heap.size)) w'' k pv qv (.bool true) st, fun hh ee W' MS => ?_, fun w'' hd hN => .inr ⟨he', hlv0, hN⟩, fun y r w'' hd hN => .inr ⟨he', hlv0, hN⟩⟩
                        exact look_isbad (hw'.same MS) _ _ _ _ _ _
                    obtain ⟨Nx, hC, hN1, hN2⟩ := key
                    have HCl := Lib.hid hC
                    have HN1 := Lib.hid hN1
                    have HN2 := Lib.hid hN2
                    clear hC hN1 hN2 AR hlv0
                    by_cases hlast : i' + 1 < nl
                    · obtain ⟨y, hy⟩ : ∃ y, L[i' + 1]? = some y := ⟨_, List.getElem?_eq_getElem (by rw [HNL.out]; exact hlast)⟩
                      have hdy : L.drop (i' + 1) = y :: L.drop (i' + 2) := by
                        have := List.drop_eq_getElem_cons (l := L) (i := i' + 1) (by rw [HNL.out]; exact hlast)
                        rw [this]
                        congr 1
                        exact (List.getElem?_eq_some_iff.1 hy).2
                      have HDy := Lib.hid hdy
                      have wI : IntKind.i64.wrap ((i' : Int) + 1) = (i' : Int) + 1 := IntWalk.i64_in _ (by omega)
                      have wI0 : (0 : Int) ≤ (i' : Int) + 1 := by omega
                      have wI1 : (i' : Int) + 1 < (nl : Int) := by omega
                      have wI2 : ((i' : Int) + 1).toNat = i' + 1 := by omega
                      have wL : IntKind.i64.wrap (lv - 1) = lv - 1 := IntWalk.i64_in _ (by omega)
                      have wX : IntKind.i64.wrap x.2 = x.2 := IntWalk.i64_in _ (by omega)
                      have d0 := ((NSr.out.same MA.out).cell hvb (fun r => r) _).trans (HVc.out (i' + 1) y hy).1
                      clear hy hdy
                      go_wp2_with fail
                      generalize wo.alloc _ = WX at *
                      go_still_tail 17, (by kernel_rfl)
                      change wpList _ _ _ _ _ WX.drew
                      have MX := Lib.hid (MA.out.drew)
                      generalize WX.drew = w2 at *
                      go_wp2_with fail
                      refine (HCl.out y.1 true _ MX.out).mono ?_
                      rintro e w8 ⟨rfl, M, hn⟩
                      have HNn := Lib.hid hn
                      have M8' := Lib.hid (MR.out.then_ ((MX.out.mono (fun _ _ q => q.elim)).then_ M (fun _ _ q => q)) (fun _ _ q => q))
                      clear hn M xa0 xa1 yA0 yA1 c0 c1 y0 y1 d0 HCl
                      go_wp2_with fail
                      go_roundw
                      case rel =>
                        (repeat apply Exists.intro)
                        exact ⟨⟨i' + 1, by omega, by go_num, M8'.out, HN2.out y _ _ HDy.out HNn.out⟩, rfl⟩
                      case measure => simp [intOf]; omega
                    · have hdn : L.drop (i' + 1) = [] := List.drop_eq_nil_of_le (by rw [HNL.out]; omega)
                      have HDn := Lib.hid hdn
                      clear hdn
                      go_wp2_with fail
                      refine (HCl.out hi has _ MA.out).mono ?_
                      rintro e w8 ⟨rfl, M, hn⟩
                      have HNn := Lib.hid hn
                      have M8' := Lib.hid (MR.out.then_ ((MA.out.mono (fun _ _ q => q.elim)).then_ M (fun _ _ q => q)) (fun _ _ q => q))
                      clear hn M xa0 xa1 yA0 yA1 c0 c1 y0 y1 HCl
                      go_wp2_with fail
                      go_roundw
                      case rel =>
                        (repeat apply Exists.intro)
                        exact ⟨⟨i' + 1, by omega, by go_num, M8'.out, HN1.out _ HDn.out HNn.out⟩, rfl⟩
                      case measure => simp [intOf]; omega
            · obtain rfl : i' = nl := by omega
              have hA := AR.out
              rw [List.drop_eq_nil_of_le (by rw [HNL.out]; exact Nat.le_refl _)] at hA
              have HA := Lib.hid hA
              clear hA AR
              go_wp2_with fail
              exact bodyPost_ret (v := .tuple #[]) (by simp [results, Tryz.results41, go_sem]) rfl (HR.out _ _ ⟨rfl, MP.out.then_ MR.out (fun i hi r s => r (.inl s)), HA.out.done (fun i r => .inl r)⟩)
        · rw [if_neg hok] at HR
          rw [decide_eq_false hok]
          have KM := Lib.hid (KX.out.mark (.bool true))
          have z2 := KX.out.blk.at_ (i := 2) _ rfl
          have z2f := KX.out.blk.free 2
          clear hok
          go_wp2_with fail
          exact bodyPost_ret (v := .tuple #[]) (by simp [results, Tryz.results41, go_sem]) rfl (HR.out _ _ ⟨rfl, MP.out.then_ KM.out.2 (fun _ _ r => r), ⟨_, _, _, KM.out.1⟩⟩)
theorem look_all {w0 : World} {a : Option Addr} {n c : Nat} {nd : Nat → Int × List (Int × Int)} (ND : Nds w0 a n nd) (hN : ∀ i, (nd i).2.length ≤ 15) (hU : ∀ i, ∀ x ∈ (nd i).2, U64 x.1 ∧ U64 x.2) (hn : n ≤ 511) (k : Nat) : ∀ (m : Nat)
    (p lvl fi hi : Int) (has : Bool) (st : WSt) (F : Nat → Prop) (w : World) (pv qv : Value), I64 p → -1 ≤ lvl → lvl < m → (lvl < 0 → 9 ≤ m) → Same w0 w → (∀ i, i < w0.heap.size → F i) → Wk w0.heap.size F w k pv qv (.bool false) st →
      Calls Tryz.prog 41 #[bp k, .slice a n c, .int .i64 p, .int .i64 lvl, .int .u64 fi, .bool has, .int .u64 hi] w fun e w' => e = .returned (.tuple #[]) ∧ Mod (fun i => ¬ F i) w w' ∧ LookT w0.heap.size F w' k (lookN nd n m p lvl fi has hi st)
  | 0 => fun p lvl fi hi has st F w pv qv hp h1 h2 h3 _ _ _ => by omega
  | m + 1 => fun p lvl fi hi has st F w pv qv hp h1 h2 h3 hM hF hW => look_step ND hN hU hn k m (look_all ND hN hU hn k m) p lvl fi hi has st F w pv qv hp h1 (by omega) h3 hM hF hW
end Go.Proofs.YtjkndfenniongaaGreatDoor

