import Derived.Test.YtlcepoagpocadaaGreatDoorMgH
import Derived.Test.YtlcepoagpocadaaGreatDoorMfH
import Derived.Test.YtlcepoagpocadaaGreatDoorPackU
import Derived.Deep.DeepCutAuto
set_option linter.unusedSimpArgs false
set_option linter.unusedVariables false
set_option maxRecDepth 100000
/- A volume's orders change no other volume. -/
namespace Go.Proofs.YtlcepoagpocadaaGreatDoor
open Go Go.RowKit
/-- Rows in blocks that are not older than B. -/
def TvB (B : Nat) (w : World) (v : Value) (l : List Vo) : Prop := ∃ a c, v = .slice a l.length c ∧ (0 < l.length → ∃ g, a = some ⟨g, 0, none⟩ ∧ B ≤ g ∧ RowV w g (l.length * 5) (fun i => (l.flatMap infoC).getD i undef))
def TxB (B : Nat) (w : World) (v : Value) (xs : List (List UInt8)) : Prop := ∃ a c, v = .slice a xs.length c ∧ (0 < xs.length → ∃ g, a = some ⟨g, 0, none⟩ ∧ B ≤ g ∧ RowV w g xs.length (txF xs))
section
variable {B : Nat} {w w' : World} {v : Value} {l : List Vo} {xs : List (List UInt8)} {Q : Nat → Prop}
theorem TvB.mod (h : TvB B w v l) (M : Mod Q w w') (hQ : ∀ g, B ≤ g → g < w.heap.size → ¬ Q g) : TvB B w' v l := by
  obtain ⟨a, c, e, k⟩ := h
  exact ⟨a, c, e, fun hp => let ⟨g, e2, hb, r⟩ := k hp; ⟨g, e2, hb, r.mod M (hQ g hb r.lt)⟩⟩
theorem TvB.same' (h : TvB B w v l) (M : Same w w') : TvB B w' v l := h.mod M (fun _ _ _ q => q)
theorem TvB.owns (h : w.ownsRow B 47 5 v l.length (l.flatMap infoC)) : TvB B w v l := by
  obtain ⟨a, c, rfl⟩ := owns_slice h
  refine ⟨a, c, rfl, fun hp => ?_⟩
  obtain ⟨g, cap, e, hb, hc, hr⟩ := RowV.of_owns h hp
  injection e with e1 _ _
  exact ⟨g, e1, hb, hr⟩
theorem TxB.mod (h : TxB B w v xs) (M : Mod Q w w') (hQ : ∀ g, B ≤ g → g < w.heap.size → ¬ Q g) : TxB B w' v xs := by
  obtain ⟨a, c, e, k⟩ := h
  exact ⟨a, c, e, fun hp => let ⟨g, e2, hb, r⟩ := k hp; ⟨g, e2, hb, r.mod M (hQ g hb r.lt)⟩⟩
theorem TxB.same' (h : TxB B w v xs) (M : Same w w') : TxB B w' v xs := h.mod M (fun _ _ _ q => q)
theorem TxB.owns (h : w.ownsRow B 9 1 v xs.length (xs.map strV)) : TxB B w v xs := by
  obtain ⟨a, c, rfl⟩ := owns_slice h
  refine ⟨a, c, rfl, fun hp => ?_⟩
  obtain ⟨g, cap, e, hb, hc, hr⟩ := RowV.of_owns h hp
  injection e with e1 _ _
  rw [Nat.mul_one] at hr
  exact ⟨g, e1, hb, hr.congr (fun i hi => txF_map xs i hi)⟩
end
theorem Md.moreM {P : Program} {K T : Nat → Prop} {w w' : World} {m : Nat} {S : MS} (h : Md P K w m S) (M : Mod T w w') (hT : ∀ b, b < w.heap.size → T b → K b) : Md P (fun i => K i ∨ (w.heap.size ≤ i ∧ i < w'.heap.size)) w' m S := by
  obtain ⟨ow, ⟨H, vm, h1, h2, h3, A⟩, e⟩ := h
  refine ⟨ow, ⟨H, vm, fun b => (h1 b).mod M (fun q r => h2 b q (hT b (h1.lt q) r)), fun b q r => r.elim (h2 b q) (fun r => ?_), fun i q => q.elim (fun q => Nat.lt_of_lt_of_le (h3 i q) M.size) (fun q => q.2), A⟩, e⟩
  have := h1.lt q
  omega
theorem eql47 (a0 a1 a2 : Int) (a3 : Bool) (a4 b0 b1 b2 : Int) (b3 : Bool) (b4 : Int) (w : World) : (binOp BinOp.eql 47 (.agg #[.int .i64 a0, .int .i64 a1, .int .i64 a2, .bool a3, .int .i64 a4]) (.agg #[.int .i64 b0, .int .i64 b1, .int .i64 b2, .bool b3, .int .i64 b4])).run Tryz.prog w = .ok (.bool (decide (a0 = b0 ∧ a1 = b1 ∧ a2 = b2 ∧ a3 = b3 ∧ a4 = b4))) w := by
  have h : (Op.equalIn Op.maxDepth 47 (.agg #[.int .i64 a0, .int .i64 a1, .int .i64 a2, .bool a3, .int .i64 a4]) (.agg #[.int .i64 b0, .int .i64 b1, .int .i64 b2, .bool b3, .int .i64 b4])).run Tryz.prog w = _ := eq47 a0 a1 a2 a3 a4 b0 b1 b2 b3 b4 w
  simp [binOp, Op.equal, h, Result.andThen]
set_option maxHeartbeats 16000000 in
theorem apart_main (ls : List (List UInt8)) (a : Option Addr) (n c : Nat) (hn : ls.length = n) (z : Int) (last : List UInt8) (hlast : last.length ≤ 1050000) (w : World) (hL : LibOK w) (hr : RowAt w a (ls.map strV)) :
    Calls Tryz.prog 6 #[.int .i64 z, .slice a n c, .string ⟨last.toArray⟩] w fun e w' => e = .returned (.bool true) ∧ Same w w' := by
  refine opq fun R HR => ?_
  have HL0 := Lib.hid hL
  have HRw := Lib.hid hr
  have HN := Lib.hid hn
  have HLa := Lib.hid hlast
  obtain ⟨k, hk1, hk8, hk⟩ := kOf z
  clear hL hr hn hlast
  go_enter Tryz.func6, Tryz.ntmps6
  go_wp2_with fail
  refine (awake_any w HL0.out).mono ?_
  rintro e w1 ⟨rfl, M⟩
  have J1 := Lib.hid M
  clear M
  go_wp2_with fail
  obtain ⟨K0, hKd⟩ : ∃ K : Nat → Prop, K = fun i => i < w1.heap.size := ⟨_, rfl⟩
  refine (new_some K0 w1 (fun i hi => by rw [hKd] at hi; exact hi) k hk1 hk8).mono ?_
  rintro e w2 ⟨m, rfl, hm, M⟩
  have J2 := Lib.hid (J1.out.same M)
  have HM2 := Lib.hid hm
  have hK00 := Lib.hid (show ∀ i, i < w.heap.size → K0 i from fun i hi => by rw [hKd]; have := J1.out.size; omega)
  clear hm M hKd hk
  unfold bp at *
  go_wp2_with fail
  refine (orders_any ls a n c HN.out w2 (HL0.out.same J2.out) (HRw.out.same J2.out)).mono ?_
  rintro e w3 ⟨a', c', rfl, hro, M⟩
  have J3 := Lib.hid (J2.out.same M)
  obtain ⟨K, hKd⟩ : ∃ z : Nat → Prop, (fun i => K0 i ∨ (w2.heap.size ≤ i ∧ i < w3.heap.size)) = z := ⟨_, rfl⟩
  have HM3 := Lib.hid (show Md Tryz.prog K w3 m (emptyS k) by rw [← hKd]; exact HM2.out.more M)
  have hK0 := Lib.hid (show ∀ i, i < w.heap.size → K i from fun i hi => by rw [← hKd]; exact Or.inl (hK00.out i hi))
  have HRo := Lib.hid hro
  have HRk := Lib.hid (show ∀ i, w2.heap.size ≤ i → i < w3.heap.size → K i from fun i h1 h2 => by rw [← hKd]; exact Or.inr ⟨h1, h2⟩)
  have HF := Lib.hid (orders_form ls)
  have hN60 := orders_len ls
  generalize ordersL ls = L at *
  obtain ⟨N, hNL⟩ : ∃ N, L.length = N := ⟨_, rfl⟩
  rw [hNL] at hN60
  rw [hNL]
  clear hKd M hro HM2 J1 J2 hK00 HRw
  go_wp2_with fail
  go_loopw [9] (fun i wr => ∃ (j : Nat) (S : MS), j ≤ N ∧ i = .int .i64 j ∧ Md Tryz.prog K wr m S ∧ Good S ∧ Wf S ∧ Mod (fun i => ¬ K i) w3 wr) (fun i _ => N - (intOf i).toNat)
  case atStart => exact ⟨0, _, Nat.zero_le _, rfl, HM3.out, good_emptyK hk1 hk8, wf_empty k, Mod.refl _ _⟩
  case round =>
    obtain ⟨j, S, hj, rfl, hm, G, Wf0, hM⟩ := hrel
    have HMr := Lib.hid hm
    have HG := Lib.hid G
    have HW := Lib.hid Wf0
    have JM := Lib.hid hM
    have Jr := Lib.hid (same_of J3.out hM hK0.out)
    clear hm G Wf0 hM HM3
    by_cases hlt : j < N
    · obtain ⟨o, ho⟩ : ∃ o, L[j]? = some o := ⟨_, List.getElem?_eq_getElem (by rw [hNL]; exact hlt)⟩
      have HOF := Lib.hid (HF.out o (List.mem_of_getElem? ho))
      obtain ⟨g, off, rfl, hgB, hgl, hcc⟩ := (HRo.out.mod JM.out (fun i h1 h2 q => q (HRk.out i h1 h2))) (by rw [List.length_map, hNL]; omega)
      have hc0 := hcc j (ordW o) (by rw [List.getElem?_map, ho]; rfl)
      have HL5 := Lib.hid (HL0.out.same Jr.out)
      clear hcc ho hgB
      go_wp2_with fail
      refine (do_any HMr.out HG.out HW.out o HOF.out.1 HL5.out).mono ?_
      rintro e w6 ⟨er, d, ua, un, uc, S', tells, rfl, hd, hm, M, ht⟩
      have JM6 := Lib.hid (JM.out.then_ M (fun i _ q => q))
      have HM6 := Lib.hid hm
      have HG' := Lib.hid (good_do HG.out HW.out hd)
      clear M hm hd ht HL5
      go_wp2_with fail
      go_roundw
      case rel => exact ⟨j + 1, S', by omega, by go_num, HM6.out, HG'.out.1, HG'.out.2.1, JM6.out⟩
      case measure => simp [intOf]; omega
    · obtain rfl : j = N := by omega
      obtain ⟨w20, hw20⟩ : ∃ z, z = wr := ⟨_, rfl⟩
      subst hw20
      have J20 := Lib.hid Jr.out
      have HM20 := Lib.hid HMr.out
      have HL20 := Lib.hid (HL0.out.same J20.out)
      have PA := Lib.hid (parse_any last HLa.out w20 HL20.out)
      clear Jr HMr JM HRo HRk HF
      by_cases h2000 : 2000 < last.length
      · have d1 : decide ((2000 : Int) < (last.length : Int)) = true := decide_eq_true (by omega)
        have d1' : decide ((last.length : Int) > 2000) = true := d1
        cases hp : parseL last with
        | none =>
          rw [hp] at PA
          unfold ansP at PA
          dsimp only at PA
          go_wp2_with fail
          refine PA.out.mono ?_
          rintro e w21 ⟨rfl, M⟩
          go_wp2_with fail
          exact HR.out _ _ ⟨rfl, J20.out.same M⟩
        | some q =>
          rw [hp] at PA
          unfold ansP at PA
          dsimp only at PA
          go_wp2_with fail
          refine PA.out.mono ?_
          rintro e w21 ⟨rfl, M⟩
          go_wp2_with fail
          exact HR.out _ _ ⟨rfl, J20.out.same M⟩
      · have d1 : decide ((2000 : Int) < (last.length : Int)) = false := decide_eq_false (by omega)
        have d1' : decide ((last.length : Int) > 2000) = false := d1
        cases hp : parseL last with
        | none =>
          rw [hp] at PA
          unfold ansP at PA
          dsimp only at PA
          go_wp2_with fail
          refine PA.out.mono ?_
          rintro e w21 ⟨rfl, M⟩
          go_wp2_with fail
          exact HR.out _ _ ⟨rfl, J20.out.same M⟩
        | some o =>
          have HOF := Lib.hid (parse_form hp)
          rw [hp] at PA
          unfold ansP at PA
          dsimp only at PA
          clear hp
          go_wp2_with fail
          refine PA.out.mono ?_
          rintro e w21 ⟨rfl, M⟩
          have J21 := Lib.hid (J20.out.same M)
          have HM21 := Lib.hid (HM20.out.same M)
          clear M PA
          have NB := Lib.hid (fun w => numbers_of (ordW o) (o.ns.map (Value.int .i64)) (o.ts.map strV) w (fun wz => (parts_all o HOF.out.1 wz).mono (fun e w' q => by rw [HOF.out.2] at q; exact q)))
          go_wp2_with fail
          refine (NB.out w21).mono ?_
          rintro e w22 ⟨na, nc, rfl, hnr, M⟩
          have J22 := Lib.hid (J21.out.same M)
          have HM22 := Lib.hid (HM21.out.same M)
          clear M hnr
          rw [List.length_map]
          by_cases hz : o.ns.length = 0
          · rw [hz]
            go_wp2_with fail
            exact HR.out _ _ ⟨rfl, J22.out⟩
          obtain ⟨x0, hx0⟩ : ∃ x0, o.ns[0]? = some x0 := ⟨_, List.getElem?_eq_getElem (by omega)⟩
          have hz2 : ((o.ns.length : Int) == 0) = false := beq_eq_false_iff_ne.2 (by omega)
          go_wp2_with fail
          refine (NB.out w22).mono ?_
          rintro e w23 ⟨na2, nc2, rfl, hnr2, M⟩
          have J23 := Lib.hid (J22.out.same M)
          have HM23 := Lib.hid (HM22.out.same M)
          obtain ⟨b2, o2, rfl, -, hb2, -, hc2⟩ := hnr2 (by rw [List.length_map]; omega)
          have cc := hc2 0 (.int .i64 x0) (by rw [List.getElem?_map, hx0]; rfl)
          rw [Nat.add_zero] at cc
          rw [List.length_map]
          have hl0 : (0 : Int) < (o.ns.length : Int) := by omega
          have hgd : o.ns.getD 0 0 = x0 := by rw [List.getD_eq_getElem?_getD, hx0]; rfl
          clear M hnr2 hc2
          go_upto_region 13 with fail
          go_cut [69] (fun v wx => v = .bool (decide (o.k = 2)) ∧ Same w23 wx)
          case first =>
            clear HR
            obtain ⟨kk, ns, ts⟩ := o
            rcases kinds15 HOF.out.1.lt with h | h | h | h | h | h | h | h | h | h | h | h | h | h | h <;> dsimp only at h hgd <;> subst h
            · rw [show ordW ⟨0, ns, ts⟩ = .iface 25 (.agg (ordC ⟨0, ns, ts⟩)) from rfl]
              go_wp2_with fail
              refine (wordF0 _ _).mono ?_
              rintro e w24 ⟨rfl, M⟩
              have JX := Lib.hid M
              clear M
              go_wp2_with fail
              go_meet
              case rel => exact ⟨rfl, JX.out⟩
            · rw [show ordW ⟨1, ns, ts⟩ = .iface 79 (.agg (ordC ⟨1, ns, ts⟩)) from rfl]
              go_wp2_with fail
              refine (wordF1 _ _).mono ?_
              rintro e w24 ⟨rfl, M⟩
              have JX := Lib.hid M
              clear M
              go_wp2_with fail
              go_meet
              case rel => exact ⟨rfl, JX.out⟩
            · rw [show ordW ⟨2, ns, ts⟩ = .iface 81 (.agg (ordC ⟨2, ns, ts⟩)) from rfl]
              go_wp2_with fail
              refine (wordF2 _ _).mono ?_
              rintro e w24 ⟨rfl, M⟩
              have JX := Lib.hid M
              clear M
              go_wp2_with fail
              go_meet
              case rel => exact ⟨rfl, JX.out⟩
            · rw [show ordW ⟨3, ns, ts⟩ = .iface 137 (.agg (ordC ⟨3, ns, ts⟩)) from rfl]
              go_wp2_with fail
              refine (wordF3 _ _).mono ?_
              rintro e w24 ⟨rfl, M⟩
              have JX := Lib.hid M
              clear M
              go_wp2_with fail
              go_meet
              case rel => exact ⟨rfl, JX.out⟩
            · rw [show ordW ⟨4, ns, ts⟩ = .iface 139 (.agg (ordC ⟨4, ns, ts⟩)) from rfl]
              go_wp2_with fail
              refine (wordF4 _ _).mono ?_
              rintro e w24 ⟨rfl, M⟩
              have JX := Lib.hid M
              clear M
              go_wp2_with fail
              go_meet
              case rel => exact ⟨rfl, JX.out⟩
            · rw [show ordW ⟨5, ns, ts⟩ = .iface 141 (.agg (ordC ⟨5, ns, ts⟩)) from rfl]
              go_wp2_with fail
              refine (wordF5 _ _).mono ?_
              rintro e w24 ⟨rfl, M⟩
              have JX := Lib.hid M
              clear M
              go_wp2_with fail
              go_meet
              case rel => exact ⟨rfl, JX.out⟩
            · rw [show ordW ⟨6, ns, ts⟩ = .iface 94 (.agg (ordC ⟨6, ns, ts⟩)) from rfl]
              go_wp2_with fail
              refine (wordF6 _ _).mono ?_
              rintro e w24 ⟨rfl, M⟩
              have JX := Lib.hid M
              clear M
              go_wp2_with fail
              go_meet
              case rel => exact ⟨rfl, JX.out⟩
            · rw [show ordW ⟨7, ns, ts⟩ = .iface 38 (.agg (ordC ⟨7, ns, ts⟩)) from rfl]
              go_wp2_with fail
              refine (wordF7 _ _).mono ?_
              rintro e w24 ⟨rfl, M⟩
              have JX := Lib.hid M
              clear M
              go_wp2_with fail
              go_meet
              case rel => exact ⟨rfl, JX.out⟩
            · rw [show ordW ⟨8, ns, ts⟩ = .iface 42 (.agg (ordC ⟨8, ns, ts⟩)) from rfl]
              go_wp2_with fail
              refine (wordF8 _ _).mono ?_
              rintro e w24 ⟨rfl, M⟩
              have JX := Lib.hid M
              clear M
              go_wp2_with fail
              go_meet
              case rel => exact ⟨rfl, JX.out⟩
            · rw [show ordW ⟨9, ns, ts⟩ = .iface 40 (.agg (ordC ⟨9, ns, ts⟩)) from rfl]
              go_wp2_with fail
              refine (wordF9 _ _).mono ?_
              rintro e w24 ⟨rfl, M⟩
              have JX := Lib.hid M
              clear M
              go_wp2_with fail
              go_meet
              case rel => exact ⟨rfl, JX.out⟩
            · rw [show ordW ⟨10, ns, ts⟩ = .iface 188 (.agg (ordC ⟨10, ns, ts⟩)) from rfl]
              go_wp2_with fail
              refine (wordF10 _ _).mono ?_
              rintro e w24 ⟨rfl, M⟩
              have JX := Lib.hid M
              clear M
              go_wp2_with fail
              go_meet
              case rel => exact ⟨rfl, JX.out⟩
            · rw [show ordW ⟨11, ns, ts⟩ = .iface 189 (.agg (ordC ⟨11, ns, ts⟩)) from rfl]
              go_wp2_with fail
              refine (wordF11 _ _).mono ?_
              rintro e w24 ⟨rfl, M⟩
              have JX := Lib.hid M
              clear M
              go_wp2_with fail
              go_meet
              case rel => exact ⟨rfl, JX.out⟩
            · rw [show ordW ⟨12, ns, ts⟩ = .iface 117 (.agg (ordC ⟨12, ns, ts⟩)) from rfl]
              go_wp2_with fail
              refine (wordF12 _ _).mono ?_
              rintro e w24 ⟨rfl, M⟩
              have JX := Lib.hid M
              clear M
              go_wp2_with fail
              go_meet
              case rel => exact ⟨rfl, JX.out⟩
            · rw [show ordW ⟨13, ns, ts⟩ = .iface 191 (.agg (ordC ⟨13, ns, ts⟩)) from rfl]
              go_wp2_with fail
              refine (wordF13 _ _).mono ?_
              rintro e w24 ⟨rfl, M⟩
              have JX := Lib.hid M
              clear M
              go_wp2_with fail
              go_meet
              case rel => exact ⟨rfl, JX.out⟩
            · rw [show ordW ⟨14, ns, ts⟩ = .iface 45 (.agg (ordC ⟨14, ns, ts⟩)) from rfl]
              go_wp2_with fail
              refine (wordF14 _ _).mono ?_
              rintro e w24 ⟨rfl, M⟩
              have JX := Lib.hid M
              clear M
              go_wp2_with fail
              go_meet
              case rel => exact ⟨rfl, JX.out⟩
          case rest =>
            obtain ⟨rfl, hMc⟩ := hcut
            have J24 := Lib.hid (J23.out.same hMc)
            have HM24 := Lib.hid (HM23.out.same hMc)
            clear hMc
            obtain ⟨w24, hw24⟩ : ∃ z, z = wc := ⟨_, rfl⟩
            subst hw24
            go_upto_if 69 with fail
            go_cut [12] (fun v wx => v = .int .i64 (ofK o.k o.ns) ∧ Same w24 wx)
            case first =>
              clear HR
              by_cases h2 : o.k = 2
              · have hd : decide (o.k = 2) = true := decide_eq_true h2
                have hn2 : o.ns.length = 2 := by have := HOF.out.1.nn; rw [h2] at this; exact this
                obtain ⟨y0, y1, hyy⟩ := len2 hn2
                have hof : ofK o.k o.ns = y1 := by unfold ofK; rw [if_pos h2, hyy]; rfl
                rw [hd]
                go_wp2_with fail
                refine (NB.out w24).mono ?_
                rintro e w25 ⟨na3, nc3, rfl, hnr3, M⟩
                obtain ⟨b3, o3, rfl, -, hb3, -, hc3⟩ := hnr3 (by rw [List.length_map]; omega)
                have cc3 := hc3 1 (.int .i64 y1) (by rw [hyy]; rfl)
                have JY := Lib.hid M
                clear M hnr3 hc3
                rw [List.length_map, hn2]
                go_wp2_with fail
                go_meet
                case rel => exact ⟨by rw [hof], JY.out⟩
              · have hd : decide (o.k = 2) = false := decide_eq_false h2
                have hof : ofK o.k o.ns = x0 := by unfold ofK; rw [if_neg h2, hgd]
                rw [hd]
                go_wp2_with fail
                go_meet
                case rel => exact ⟨by rw [hof], Mod.refl _ _⟩
            case rest =>
              obtain ⟨rfl, hMc⟩ := hcut
              have J25 := Lib.hid (J24.out.same hMc)
              have HM25 := Lib.hid (HM24.out.same hMc)
              clear hMc
              obtain ⟨w25, hw25⟩ : ∃ z, z = wc := ⟨_, rfl⟩
              subst hw25
              obtain ⟨idq, hidq⟩ : ∃ z, ofK o.k o.ns = z := ⟨_, rfl⟩
              rw [hidq]
              have HID := Lib.hid hidq
              clear hidq NB cc J20 J21 J22 J23 J24 HM20 HM21 HM22 HM23 HM24
              go_wp2_with fail
              refine (copy_any HM25.out HW.out HG.out).mono ?_
              rintro e w26 ⟨m2, T, f, rfl, hI, hWT, hGT, hmT, M⟩
              have IST := Lib.hid hI
              have WT := Lib.hid hWT
              have GT := Lib.hid hGT
              have J26 := Lib.hid (J25.out.same M)
              have HC26 := Lib.hid hmT
              have hsz26 : w25.heap.size ≤ w26.heap.size := M.size
              have hszw : w.heap.size ≤ w25.heap.size := J25.out.size
              obtain ⟨K1, hK1⟩ : ∃ z : Nat → Prop, (fun i => K i ∨ (w25.heap.size ≤ i ∧ i < w26.heap.size)) = z := ⟨_, rfl⟩
              have HM26 := Lib.hid (show Md Tryz.prog K1 w26 m S by rw [← hK1]; exact HM25.out.more M)
              have KX1 := Lib.hid (show ∀ i, K i ∨ (w25.heap.size ≤ i ∧ i < w26.heap.size) → K1 i from fun i q => by rw [← hK1]; exact q)
              clear hI hWT hGT hmT M hK1 HM25 J25
              unfold bp at *
              go_wp2_with fail
              refine (volumes_md HM26.out HG.out HW.out).mono ?_
              rintro e w27 ⟨vv, rfl, hov, -, M⟩
              have J27 := Lib.hid (J26.out.same M)
              have HC27 := Lib.hid (HC26.out.more M)
              have TV27 := Lib.hid (TvB.owns hov)
              have hbv := hov.lt
              obtain ⟨av, cv, rfl⟩ := owns_slice hov
              obtain ⟨K2, hK2⟩ : ∃ z : Nat → Prop, (fun i => K1 i ∨ (w26.heap.size ≤ i ∧ i < w27.heap.size)) = z := ⟨_, rfl⟩
              have HM27 := Lib.hid (show Md Tryz.prog K2 w27 m S by rw [← hK2]; exact HM26.out.more M)
              have KX2 := Lib.hid (show ∀ i, K1 i ∨ (w26.heap.size ≤ i ∧ i < w27.heap.size) → K2 i from fun i q => by rw [← hK2]; exact q)
              have hsz27 : w26.heap.size ≤ w27.heap.size := M.size
              clear hov M hK2 HM26 HC26 J26 hbv
              go_wp2_with fail
              refine (dump_md HM27.out HG.out HW.out).mono ?_
              rintro e w28 ⟨dv, rfl, hod, -, M⟩
              have J28 := Lib.hid (J27.out.same M)
              have HC28 := Lib.hid (show Md Tryz.prog (fun i => i < w25.heap.size ∨ (w26.heap.size ≤ i ∧ i < w28.heap.size)) w28 m2 T from (HC27.out.more M).less (fun i q => by have := M.size; rcases q with q | q; exact .inl (.inl q); by_cases q1 : i < w27.heap.size; exact .inl (.inr ⟨q.1, q1⟩); exact .inr ⟨by omega, q.2⟩))
              have TV28 := Lib.hid (TV27.out.same' M)
              rw [← dumpS_length] at hod
              have TD28 := Lib.hid (TxB.owns hod)
              obtain ⟨ad, cd, rfl⟩ := owns_slice hod
              obtain ⟨K3, hK3⟩ : ∃ z : Nat → Prop, (fun i => K2 i ∨ (w27.heap.size ≤ i ∧ i < w28.heap.size)) = z := ⟨_, rfl⟩
              have HM28 := Lib.hid (show Md Tryz.prog K3 w28 m S by rw [← hK3]; exact HM27.out.more M)
              have KX3 := Lib.hid (show ∀ i, K2 i ∨ (w27.heap.size ≤ i ∧ i < w28.heap.size) → K3 i from fun i q => by rw [← hK3]; exact q)
              have hsz28 : w27.heap.size ≤ w28.heap.size := M.size
              have HK3 := Lib.hid (show ∀ i, K i ∨ (w25.heap.size ≤ i ∧ i < w28.heap.size) → K3 i from fun i q => by
                rcases q with q | q
                · exact KX3.out i (.inl (KX2.out i (.inl (KX1.out i (.inl q)))))
                · by_cases q1 : i < w26.heap.size
                  · exact KX3.out i (.inl (KX2.out i (.inl (KX1.out i (.inr ⟨q.1, q1⟩)))))
                  · by_cases q2 : i < w27.heap.size
                    · exact KX3.out i (.inl (KX2.out i (.inr ⟨by omega, q2⟩)))
                    · exact KX3.out i (.inr ⟨by omega, q.2⟩))
              clear hod M hK3 HM27 HC27 J27 TV27 KX1 KX2 KX3
              have HL28 := Lib.hid (HL0.out.same J28.out)
              go_wp2_with fail
              refine (do_any HM28.out HG.out HW.out o HOF.out.1 HL28.out).mono ?_
              rintro e w29 ⟨er, dd, ua, un, uc, S', tells, rfl, hd, hm, M, -⟩
              have J29 := Lib.hid (same_of J28.out M (fun i hi => HK3.out i (.inl (hK0.out i hi))))
              have HM29 := Lib.hid hm
              have HD := Lib.hid hd
              have HG' := Lib.hid (good_do HG.out HW.out hd)
              have TV29 := Lib.hid (TV28.out.mod M (fun g h1 h2 q => q (HK3.out g (.inr ⟨by omega, h2⟩))))
              have TD29 := Lib.hid (TD28.out.mod M (fun g h1 h2 q => q (HK3.out g (.inr ⟨by omega, h2⟩))))
              obtain ⟨KC, hKC⟩ : ∃ z : Nat → Prop, (fun i => (i < w25.heap.size ∨ (w26.heap.size ≤ i ∧ i < w28.heap.size)) ∨ (w28.heap.size ≤ i ∧ i < w29.heap.size)) = z := ⟨_, rfl⟩
              have HC29 := Lib.hid (show Md Tryz.prog KC w29 m2 T by
                rw [← hKC]
                exact (HC28.out).moreM M (fun b h1 h2 => by
                  by_cases q : b < w25.heap.size
                  · exact .inl q
                  · exact absurd (HK3.out b (.inr ⟨by omega, h1⟩)) h2))
              have KC1 := Lib.hid (show ∀ i, i < w25.heap.size ∨ (w26.heap.size ≤ i ∧ i < w29.heap.size) → KC i from fun i q => by
                rw [← hKC]
                rcases q with q | q
                · exact .inl (.inl q)
                · by_cases q1 : i < w28.heap.size
                  · exact .inl (.inr ⟨q.1, q1⟩)
                  · exact .inr ⟨by omega, q.2⟩)
              have hsz29 : w28.heap.size ≤ w29.heap.size := M.size
              clear M hm hd hKC HM28 HC28 TV28 TD28
              obtain ⟨w30, hw30⟩ : ∃ z, w29.alloc (.cells #[.int .i64 er, .string ⟨dd.toArray⟩, .slice ua un uc] 31) = z := ⟨_, rfl⟩
              have N30 := Lib.hid (show Same w29 w30 by rw [← hw30]; exact (Mod.refl _ _).alloc _)
              obtain ⟨xr, hxr⟩ : ∃ z, w29.heap.size = z := ⟨_, rfl⟩
              have BX30 := Lib.hid (show Blk w30 xr #[.int .i64 er, .string ⟨dd.toArray⟩, .slice ua un uc] by rw [← hw30, ← hxr]; exact Blk.new w29 _ 31)
              have s30 : w30.heap.size = xr + 1 := by rw [← hw30, ← hxr]; simp
              have J30 := Lib.hid (J29.out.same N30.out)
              have HM30 := Lib.hid (HM29.out.same N30.out)
              have HC30 := Lib.hid (HC29.out.same N30.out)
              have TV30 := Lib.hid (TV29.out.same' N30.out)
              have TD30 := Lib.hid (TD29.out.same' N30.out)
              clear HM29 TV29 TD29 J29
              go_upto_region 19 with fail
              go_cut [96] (fun v wx => v = .bool false ∧ Same w30 wx)
              case first =>
                clear HR
                have b0 := BX30.out.at_ (i := 0) (.int .i64 er) rfl
                by_cases he : er = 0
                · have he0 : (er != 0) = false := by simp [he]
                  go_wp2_with fail
                  go_meet
                  case rel => exact ⟨rfl, Mod.refl _ _⟩
                · have he0 : (er != 0) = true := by simp [he]
                  obtain ⟨eS, eD⟩ := do_err HD.out he
                  have hsm := same_models HM30.out HG'.out.1 HG'.out.2.1 HC30.out GT.out WT.out
                  have hI1 : decide (infoS S' = infoS T) = true := decide_eq_true (by rw [eS]; exact IST.out.info.symm)
                  have hI2 : decide (dumpS S' = dumpS T) = true := decide_eq_true (by rw [eS]; exact IST.out.dump.symm)
                  rw [hI1, hI2] at hsm
                  have HSM := Lib.hid hsm
                  subst eD
                  have BY := Lib.hid (BX30.out)
                  clear hsm hI1 hI2 eS
                  go_wp2_with fail
                  refine HSM.out.mono ?_
                  rintro e w31 ⟨rfl, M⟩
                  have b1 := (BY.out.mod M (fun q => q)).at_ (i := 1) (.string ⟨#[]⟩) rfl
                  have JX := Lib.hid M
                  clear M
                  go_wp2_with fail
                  go_meet
                  case rel => exact ⟨rfl, JX.out⟩
              case rest =>
                obtain ⟨rfl, hMc⟩ := hcut
                obtain ⟨w31, hw31⟩ : ∃ z, z = wc := ⟨_, rfl⟩
                subst hw31
                have J31 := Lib.hid (J30.out.same hMc)
                have M31 := Lib.hid (N30.out.same hMc)
                have HM31 := Lib.hid (HM30.out.same hMc)
                have TV31 := Lib.hid (TV30.out.same' hMc)
                have TD31 := Lib.hid (TD30.out.same' hMc)
                have BX31 := Lib.hid (BX30.out.mod hMc (fun q => q))
                have hsz31 : w30.heap.size ≤ w31.heap.size := hMc.size
                clear hMc HM30 HC30 TV30 TD30 BX30 J30 N30 hw30
                go_wp2_with fail
                refine (volumes_md HM31.out HG'.out.1 HG'.out.2.1).mono ?_
                rintro e w32 ⟨vw, rfl, how, -, M⟩
                have J32 := Lib.hid (J31.out.same M)
                have M32 := Lib.hid (M31.out.same M)
                have HM32 := Lib.hid (HM31.out.same M)
                have TV32 := Lib.hid (TV31.out.same' M)
                have TD32 := Lib.hid (TD31.out.same' M)
                have TW32 := Lib.hid (TvB.owns how)
                have BX32 := Lib.hid (BX31.out.mod M (fun q => q))
                obtain ⟨aw, cw, rfl⟩ := owns_slice how
                clear how M HM31 TV31 TD31 BX31 J31 M31
                go_wp2_with fail
                refine (dump_md HM32.out HG'.out.1 HG'.out.2.1).mono ?_
                rintro e w33 ⟨fw, rfl, hof, -, M⟩
                have J33 := Lib.hid (J32.out.same M)
                have M33 := Lib.hid (M32.out.same M)
                have HM33 := Lib.hid (HM32.out.same M)
                have TV33 := Lib.hid (TV32.out.same' M)
                have TD33 := Lib.hid (TD32.out.same' M)
                have TW33 := Lib.hid (TW32.out.same' M)
                rw [← dumpS_length] at hof
                have TF33 := Lib.hid (TxB.owns hof)
                have BX33 := Lib.hid (BX32.out.mod M (fun q => q))
                obtain ⟨af, cf, rfl⟩ := owns_slice hof
                clear hof M HM32 TV32 TD32 TW32 BX32 J32 M32
                have V1 := Lib.hid (vols_len HG.out HW.out)
                have V2 := Lib.hid (vols_len HG'.out.1 HG'.out.2.1)
                rw [dumpS_length, dumpS_length]
                obtain ⟨V, hV⟩ : ∃ z, S.vols.length = z := ⟨_, rfl⟩
                obtain ⟨V', hV'⟩ : ∃ z, S'.vols.length = z := ⟨_, rfl⟩
                have hV16 := V1.out
                have hV16' := V2.out
                rw [hV] at hV16 ⊢
                rw [hV'] at hV16' ⊢
                obtain ⟨av1, cv1, ev1, kv1⟩ := TV33.out
                obtain ⟨ad1, cd1, ed1, kd1⟩ := TD33.out
                obtain ⟨aw1, cw1, ew1, kw1⟩ := TW33.out
                obtain ⟨af1, cf1, ef1, kf1⟩ := TF33.out
                injection ev1 with ev1 _ _
                injection ed1 with ed1 _ _
                injection ew1 with ew1 _ _
                injection ef1 with ef1 _ _
                subst ev1 ed1 ew1 ef1
                rw [hV] at kv1
                rw [hV'] at kw1
                rw [dumpS_length, hV] at kd1
                rw [dumpS_length, hV'] at kf1
                have KV := Lib.hid kv1
                have KD := Lib.hid kd1
                have KW := Lib.hid kw1
                have KFF := Lib.hid kf1
                have LV := Lib.hid hV
                have LV' := Lib.hid hV'
                clear kv1 kd1 kw1 kf1 TV33 TD33 TW33 TF33 hV hV'
                go_wp2_with fail
                go_loopw [19, 20, 21] (fun i _ _ wr => ∃ j : Nat, j ≤ V ∧ i = .int .i64 j ∧ Same w33 wr) (fun i _ _ _ => V - (intOf i).toNat)
                case atStart => exact ⟨0, Nat.zero_le _, rfl, Mod.refl _ _⟩
                case round =>
                  obtain ⟨jj, hjj, rfl, hMr⟩ := hrel
                  have JR := Lib.hid hMr
                  clear hMr
                  by_cases hjl : jj < V
                  · obtain ⟨v, hv⟩ : ∃ v, S.vols[jj]? = some v := ⟨_, List.getElem?_eq_getElem (by rw [LV.out]; exact hjl)⟩
                    obtain ⟨gv, rfl, -, rv⟩ := KV.out (by omega)
                    obtain ⟨gd, rfl, -, rd⟩ := KD.out (by omega)
                    have RVV := Lib.hid rv
                    have RDD := Lib.hid rd
                    have HVJ := Lib.hid hv
                    have cid := ((rv.mod JR.out (fun q => q)).cell (jj * 5) (by omega)).trans (info_at hv 0 (by decide) (.int .i64 v.id) rfl)
                    clear rv rd hv
                    by_cases hid : v.id = idq
                    · have hb : (v.id == idq) = true := by simp [hid]
                      go_wp2_with fail
                      go_roundw
                      case rel => exact ⟨jj + 1, by omega, by go_num, JR.out⟩
                      case measure => simp [intOf]; omega
                    · have hb : (v.id == idq) = false := by simp [hid]
                      have FA := Lib.hid (fnd_all HG.out HW.out HD.out (List.mem_of_getElem? HVJ.out) (by rw [HID.out]; exact hid))
                      go_wp2_with fail
                      clear cid
                      go_loopw [20, 21] (fun f i2 wz => ∃ q : Nat, q ≤ V' ∧ i2 = .int .i64 q ∧ f = .bool (fnd S S' v (S'.vols.take q)) ∧ Same w33 wz) (fun _ i2 _ => V' - (intOf i2).toNat)
                      case atStart => exact ⟨0, Nat.zero_le _, rfl, rfl, JR.out⟩
                      case round =>
                        obtain ⟨q, hq, rfl, rfl, hMz⟩ := hrel
                        have JZ := Lib.hid hMz
                        clear hMz
                        by_cases hql : q < V'
                        · obtain ⟨u, hu⟩ : ∃ u, S'.vols[q]? = some u := ⟨_, List.getElem?_eq_getElem (by rw [LV'.out]; exact hql)⟩
                          have tk : S'.vols.take (q + 1) = S'.vols.take q ++ [u] := by
                            obtain ⟨h1, h2⟩ := List.getElem?_eq_some_iff.1 hu
                            rw [List.take_succ_eq_append_getElem h1, h2]
                          have FS := Lib.hid (show fnd S S' v (S'.vols.take (q + 1)) = (fnd S S' v (S'.vols.take q) || (decide (infoV u = infoV v) && decide (dumpV S' u = dumpV S v))) by rw [tk, fnd_snoc])
                          obtain ⟨gw, rfl, -, rw'⟩ := KW.out (by omega)
                          obtain ⟨gf, rfl, -, rf⟩ := KFF.out (by omega)
                          have rw2 := rw'.mod JZ.out (fun q => q)
                          have rf2 := rf.mod JZ.out (fun q => q)
                          have rv2 := RVV.out.mod JZ.out (fun q => q)
                          have rd2 := RDD.out.mod JZ.out (fun q => q)
                          have p0 := (rw2.cell (q * 5) (by omega)).trans (info_at hu 0 (by decide) (.int .i64 u.id) rfl)
                          have p1 := (rw2.cell (q * 5 + 1) (by omega)).trans (info_at hu 1 (by decide) (.int .i64 u.size) rfl)
                          have p2 := (rw2.cell (q * 5 + 2) (by omega)).trans (info_at hu 2 (by decide) (.int .i64 0) rfl)
                          have p3 := (rw2.cell (q * 5 + 3) (by omega)).trans (info_at hu 3 (by decide) (.bool u.pin) rfl)
                          have p4 := (rw2.cell (q * 5 + 4) (by omega)).trans (info_at hu 4 (by decide) (.int .i64 u.fr) rfl)
                          have q0 := (rv2.cell (jj * 5) (by omega)).trans (info_at HVJ.out 0 (by decide) (.int .i64 v.id) rfl)
                          have q1 := (rv2.cell (jj * 5 + 1) (by omega)).trans (info_at HVJ.out 1 (by decide) (.int .i64 v.size) rfl)
                          have q2 := (rv2.cell (jj * 5 + 2) (by omega)).trans (info_at HVJ.out 2 (by decide) (.int .i64 0) rfl)
                          have q3 := (rv2.cell (jj * 5 + 3) (by omega)).trans (info_at HVJ.out 3 (by decide) (.bool v.pin) rfl)
                          have q4 := (rv2.cell (jj * 5 + 4) (by omega)).trans (info_at HVJ.out 4 (by decide) (.int .i64 v.fr) rfl)
                          have f0 := (rf2.cell q hql).trans (show _ = some (Value.string ⟨(dumpV S' u).toArray⟩) by
                            unfold txF dumpS
                            rw [List.getD_eq_getElem?_getD, List.getElem?_map, hu]; rfl)
                          have d0 := (rd2.cell jj hjl).trans (show _ = some (Value.string ⟨(dumpV S v).toArray⟩) by
                            unfold txF dumpS
                            rw [List.getD_eq_getElem?_getD, List.getElem?_map, HVJ.out]; rfl)
                          have hi0 : (0 : Int) ≤ (q : Int) := by omega
                          have hi1 : (q : Int) < (V' : Int) := by omega
                          have hi2 : (0 : Int) ≤ (jj : Int) := by omega
                          have hi3 : (jj : Int) < (V : Int) := by omega
                          have hdd := fun W => eql47 u.id u.size 0 u.pin u.fr v.id v.size 0 v.pin v.fr W
                          clear rw' rf rw2 rf2 rv2 rd2 tk hu
                          have hdE : decide (u.id = v.id ∧ u.size = v.size ∧ (0 : Int) = 0 ∧ u.pin = v.pin ∧ u.fr = v.fr) = decide (infoV u = infoV v) := decide_eq_decide.2 ⟨fun ⟨e1, e2, _, e3, e4⟩ => by unfold infoV; rw [e1, e2, e3, e4], fun h => by
                            unfold infoV at h
                            injection h with e1 e2
                            injection e2 with e2 e3
                            injection e3 with e3 e4
                            exact ⟨e1, e2, rfl, e3, e4⟩⟩
                          rw [hdE] at hdd
                          clear hdE
                          obtain ⟨dumpU, hdu⟩ : ∃ z, dumpV S' u = z := ⟨_, rfl⟩
                          obtain ⟨dumpW, hdw⟩ : ∃ z, dumpV S v = z := ⟨_, rfl⟩
                          rw [hdu] at f0 FS
                          rw [hdw] at d0 FS
                          clear hdu hdw
                          obtain ⟨bf, hbf⟩ : ∃ z, fnd S S' v (S'.vols.take q) = z := ⟨_, rfl⟩
                          obtain ⟨bi, hbi⟩ : ∃ z, decide (infoV u = infoV v) = z := ⟨_, rfl⟩
                          rw [hbi] at hdd FS
                          rw [hbf] at FS ⊢
                          clear hbi hbf
                          cases bf with
                          | true =>
                            have FS2 := Lib.hid (show fnd S S' v (S'.vols.take (q + 1)) = true by rw [FS.out]; rfl)
                            go_wp2_with fail
                            go_big_quiet (fail)
                            go_wp2_with fail
                            go_roundw
                            case rel => exact ⟨q + 1, by omega, by go_num, by rw [FS2.out], JZ.out.drewN _⟩
                            case measure => simp [intOf]; omega
                          | false =>
                            cases bi with
                            | false =>
                              have FS2 := Lib.hid (show fnd S S' v (S'.vols.take (q + 1)) = false by rw [FS.out]; rfl)
                              go_wp2_with fail
                              go_big_quiet (fail)
                              go_wp2_with fail
                              go_roundw
                              case rel => exact ⟨q + 1, by omega, by go_num, by rw [FS2.out], JZ.out.drewN _⟩
                              case measure => simp [intOf]; omega
                            | true =>
                              by_cases hxy : dumpU = dumpW
                              · subst hxy
                                have FS2 := Lib.hid (show fnd S S' v (S'.vols.take (q + 1)) = true by rw [FS.out]; simp)
                                go_wp2_with fail
                                go_big_quiet (fail)
                                go_wp2_with fail
                                go_roundw
                                case rel => exact ⟨q + 1, by omega, by go_num, by rw [FS2.out], JZ.out.drewN _⟩
                                case measure => simp [intOf]; omega
                              · have hb1 : (dumpU == dumpW) = false := by simpa using hxy
                                have FS2 := Lib.hid (show fnd S S' v (S'.vols.take (q + 1)) = false by rw [FS.out, decide_eq_false hxy]; rfl)
                                go_wp2_with fail
                                go_big_quiet (fail)
                                go_wp2_with fail
                                go_roundw
                                case rel => exact ⟨q + 1, by omega, by go_num, by rw [FS2.out], JZ.out.drewN _⟩
                                case measure => simp [intOf]; omega
                        · obtain rfl : q = V' := by omega
                          have FT := FA.out
                          rw [← List.take_of_length_le (l := S'.vols) (i := q) (by rw [LV'.out]; exact Nat.le_refl _)] at FT
                          rw [FT]
                          go_wp2_with fail
                          go_roundw
                          case rel => exact ⟨jj + 1, by omega, by go_num, JZ.out⟩
                          case measure => simp [intOf]; omega
                  · obtain rfl : jj = V := by omega
                    have Jf := Lib.hid (J33.out.same JR.out)
                    have MF := Lib.hid (M33.out.same JR.out)
                    have HCf := Lib.hid (show Md Tryz.prog (fun i => i < w25.heap.size ∨ (w26.heap.size ≤ i ∧ i < wr.heap.size)) wr m2 T from (HC29.out.more MF.out).less (fun i q => by
                      rcases q with q | q
                      · exact .inl (KC1.out i (.inl q))
                      · by_cases q1 : i < w29.heap.size
                        · exact .inl (KC1.out i (.inr ⟨q.1, q1⟩))
                        · exact .inr ⟨by omega, q.2⟩))
                    have HMf := Lib.hid (HM33.out.same JR.out)
                    have BXf := Lib.hid (BX33.out.mod JR.out (fun q => q))
                    have HLf := Lib.hid (HL0.out.same Jf.out)
                    have s33 : xr < w33.heap.size := BX33.out.lt
                    have s33r : w33.heap.size ≤ wr.heap.size := JR.out.size
                    clear KV KD KW KFF JR J33 M33 HM33 BX33 HC29
                    go_wp2_with fail
                    refine (do_any HCf.out GT.out WT.out o HOF.out.1 HLf.out).mono ?_
                    rintro e w40 ⟨er2, dd2, ua2, un2, uc2, T', tells2, rfl, hd2, hm2, M2, -⟩
                    obtain ⟨eE, eD, -, f2, hI2⟩ := iso_do IST.out HW.out HD.out hd2
                    have G2 := Lib.hid (good_do GT.out WT.out hd2)
                    subst eE eD
                    have J40 := Lib.hid (Jf.out.then_ M2 (fun i hi q => q (.inl (by have := hsz26; omega))))
                    have HM40 := Lib.hid (HMf.out.mod M2 (fun b h1 h2 => HK3.out b (.inr (by
                      by_cases q : b < w25.heap.size
                      · exact absurd (.inl q) h2
                      · by_cases q1 : b < w26.heap.size
                        · exact ⟨by omega, by omega⟩
                        · exact absurd (.inr ⟨by omega, h1⟩) h2))))
                    have HC40 := Lib.hid hm2
                    have BX40 := Lib.hid (BXf.out.mod M2 (fun q => q (.inr ⟨by omega, by omega⟩)))
                    have s40 : wr.heap.size ≤ w40.heap.size := M2.size
                    obtain ⟨w41, hw41⟩ : ∃ z, w40.alloc (.cells #[.int .i64 er2, .string ⟨dd2.toArray⟩, .slice ua2 un2 uc2] 31) = z := ⟨_, rfl⟩
                    have N41 := Lib.hid (show Same w40 w41 by rw [← hw41]; exact (Mod.refl _ _).alloc _)
                    obtain ⟨xs, hxs⟩ : ∃ z, w40.heap.size = z := ⟨_, rfl⟩
                    have BS41 := Lib.hid (show Blk w41 xs #[.int .i64 er2, .string ⟨dd2.toArray⟩, .slice ua2 un2 uc2] by rw [← hw41, ← hxs]; exact Blk.new w40 _ 31)
                    have J41 := Lib.hid (J40.out.same N41.out)
                    have BX41 := Lib.hid (BX40.out.mod N41.out (fun q => q))
                    have hsm := same_models (HM40.out.same N41.out) HG'.out.1 HG'.out.2.1 (HC40.out.same N41.out) G2.out.1 G2.out.2.1
                    have i1 : decide (infoS S' = infoS T') = true := decide_eq_true hI2.info.symm
                    have i2 : decide (dumpS S' = dumpS T') = true := decide_eq_true hI2.dump.symm
                    rw [i1, i2] at hsm
                    have HSM := Lib.hid hsm
                    have x0 := BX41.out.at_ (i := 0) (.int .i64 er2) rfl
                    have x1 := BX41.out.at_ (i := 1) (.string ⟨dd2.toArray⟩) rfl
                    have y0 := BS41.out.at_ (i := 0) (.int .i64 er2) rfl
                    have y1 := BS41.out.at_ (i := 1) (.string ⟨dd2.toArray⟩) rfl
                    clear hsm i1 i2 hd2 hm2 M2 hI2 s40
                    go_wp2_with fail
                    refine HSM.out.mono ?_
                    rintro e w42 ⟨rfl, M⟩
                    go_wp2_with fail
                    exact HR.out _ _ ⟨rfl, J41.out.same M⟩
end Go.Proofs.YtlcepoagpocadaaGreatDoor
