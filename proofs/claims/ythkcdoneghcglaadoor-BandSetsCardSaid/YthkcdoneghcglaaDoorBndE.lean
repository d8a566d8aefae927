import Derived.Test.YthkcdoneghcglaaDoorBndD
import Derived.Lib.ItoaLen
set_option linter.unusedSimpArgs false
set_option linter.unusedVariables false
/- band.Text. -/
namespace Go.Proofs.YthkcdoneghcglaaDoor
open Go Go.RowKit
theorem runT_len (p : Int × Int) (h1 : I64 p.1) (h2 : I64 p.2) : (runT p).length ≤ 50 := by
  have a := Lib.itoa_length_le p.1 h1.1 h1.2
  have b := Lib.itoa_length_le p.2 h2.1 h2.2
  unfold runT
  rw [List.length_append]
  split
  · rw [List.length_append]; unfold thru; simp; omega
  · simp; omega
theorem vr_i64 : ∀ (R : List (Int × Int)) (lo : Int), -1 ≤ lo → vr lo R → ∀ p ∈ R, 0 ≤ p.1 ∧ p.1 ≤ p.2 ∧ p.2 ≤ 9999
  | [], _, _, _, p, h => by cases h
  | q :: R, lo, hlo, ⟨h1, h2, h3, h4⟩, p, h => by
    rcases List.mem_cons.1 h with rfl | h
    · exact ⟨by omega, h2, h3⟩
    · exact vr_i64 R (q.2 + 1) (by omega) h4 p h
theorem textR_len : ∀ (R : List (Int × Int)) (n : Nat), R.length ≤ n → (∀ p ∈ R, I64 p.1 ∧ I64 p.2) → (textR R).length ≤ 52 * n
  | [], n, _, _ => by unfold textR; simp [Lib.join]
  | q :: R, 0, h, _ => by simp at h
  | q :: R, n + 1, h, hp => by
    have ih := textR_len R n (by simp at h; omega) fun p hq => hp p (by simp [hq])
    have hq := hp q (by simp)
    have := runT_len q hq.1 hq.2
    rw [textR_cons, List.length_append]
    have : (restT R).length ≤ 2 + (textR R).length := by
      cases R with
      | nil => simp [restT]
      | cons p R => unfold restT comma; simp; omega
    omega
def strB (p : Int × Int) : ByteArray := ⟨(runT p).toArray⟩
theorem strB_join (R : List (Int × Int)) : Lib.join ((R.map strB).map (·.data.toList)) [216, 140] = textR R := by
  unfold textR comma
  rw [List.map_map]; rfl
theorem take_map {R : List (Int × Int)} {k : Nat} {p : Int × Int} (h : R[k]? = some p) : (R.take (k + 1)).map (fun p => Value.string (strB p)) = (R.take k).map (fun p => Value.string (strB p)) ++ [.string (strB p)] := by
  rw [List.take_add_one, h, List.map_append]; rfl
def btextV (L : List Int) : Value := if goodI L = true then .tuple #[strV (textB L), .int .i64 0] else .tuple #[.string ⟨#[]⟩, .int .i64 1]
set_option maxRecDepth 10000 in
set_option maxHeartbeats 4000000 in
theorem btext_any (a : Option Addr) (cap : Nat) (L : List Int) (w : World) (hl : L.length ≤ 1000000) (hI : Ins w a L) (hL : LibOK w) :
    Calls Tryd.prog 19 #[.slice a L.length cap] w fun e w' => e = .returned (btextV L) ∧ Same w w' := by
  refine opq fun R HR => ?_
  have HI := Lib.hid hI
  have HL := Lib.hid hL
  have HG := Lib.hid (isSet_any a cap L w (by omega) hI)
  have HRu := Lib.hid (fun (hg : goodI L = true) (w' : World) (M : Same w w') => runs_any a cap L w' hl (hI.same M) hg)
  have hrl := runs_len L
  unfold btextV at HR
  obtain ⟨n, hn⟩ : ∃ n, L.length = n := ⟨_, rfl⟩
  rw [hn] at hl HG HRu hrl ⊢
  have HN := Lib.hid hn
  clear hI hL hn
  go_enter Tryd.func19, Tryd.ntmps19
  go_wp2_with fail
  refine HG.out.mono ?_
  rintro e w1 ⟨rfl, M⟩
  have K1 := Lib.hid M
  clear M HG
  cases hg : goodI L with
  | false =>
    rw [hg, if_neg (by decide)] at HR
    go_wp2
    exact HR.out _ _ ⟨rfl, K1.out⟩
  | true =>
    rw [hg, if_pos rfl] at HR
    by_cases hne : L = []
    · have hn0 : n = 0 := by rw [← HN.out, hne]; rfl
      have HR2 := Lib.hid (show ∀ (e : Ending) (w' : World), e = .returned (.tuple #[.string ⟨#[226, 136, 133]⟩, .int .i64 0]) ∧ Same w w' → R e w' from by rw [hne] at HR; exact HR.out)
      subst hn0
      go_wp2
      exact HR2.out _ _ ⟨rfl, K1.out⟩
    · have hn0 : 0 < n := by rw [← HN.out]; exact List.length_pos_iff.2 hne
      rw [textB_ne hne] at HR
      have hrne := runs_ne hne
      have hvr := vr_i64 (runs L) (-1) (by decide) (vr_runs hg)
      have HRv := Lib.hid hvr
      have htl := textR_len (runs L) n hrl (fun p hp => by have := hvr p hp; unfold I64; omega)
      have hr0 : 0 < (runs L).length := List.length_pos_iff.2 hrne
      have HRu2 := Lib.hid (HRu.out hg)
      have hjn := strB_join (runs L)
      clear hg HRu hne hrne hvr
      generalize runs L = Rn at *
      obtain ⟨nr, hnr⟩ : ∃ nr, Rn.length = nr := ⟨_, rfl⟩
      rw [hnr] at hrl hr0 HRu2
      have HNR := Lib.hid hnr
      have HJn := Lib.hid hjn
      have HTl := Lib.hid htl
      clear hnr hjn htl
      have hb0 : ((n : Int) == 0) = false := beqF (by omega)
      go_wp2_with fail
      refine (HRu2.out _ K1.out).mono ?_
      rintro e w2 ⟨⟨v, rfl, hrow⟩, M⟩
      have K2 := Lib.hid (K1.out.same M)
      rw [← HNR.out] at hrow
      obtain ⟨ar, cr, rfl, hcr, hfd⟩ := fds_own hrow
      rw [HNR.out] at hcr ⊢
      have F2 := Lib.hid hfd
      clear M hrow hfd HRu2 K1
      obtain ⟨i0, hi, hz0, hz1, hz2⟩ := info_parts info9
      have I0 := Lib.hid hi
      have Z0 := Lib.hid hz0
      have Z1 := Lib.hid hz1
      have Z2 := Lib.hid hz2
      clear hi hz0 hz1 hz2
      go_wp2_with fail
      go_loopw [19, 4] (fun i v wr => ∃ k : Nat, k ≤ nr ∧ i = .int .i64 k ∧ wr.ownsRow w2.heap.size 9 1 v k ((Rn.take k).map fun p => Value.string (strB p)) ∧ Same w2 wr) (fun i _ _ => nr - (intOf i).toNat)
      case atStart => exact ⟨0, by omega, rfl, World.ownsRow_nil _ _ _ _, Mod.refl _ _⟩
      case round =>
        obtain ⟨k, hk, rfl, hown, M⟩ := hrel
        have J1 := Lib.hid hown
        have J := Lib.hid M
        have hsz : w2.heap.size ≤ wr.heap.size := M.size
        clear hown M
        by_cases hlt : k < nr
        · obtain ⟨b1, o1, rfl, hb1, hc1⟩ := F2.out (by rw [HNR.out]; omega)
          obtain ⟨p, hx⟩ : ∃ p, Rn[k]? = some p := ⟨_, List.getElem?_eq_getElem (by rw [HNR.out]; exact hlt)⟩
          have hxc := hc1 k p hx
          have e0 := (J.out.cell hb1 (fun q => q) _).trans hxc.1
          have e1 := (J.out.cell hb1 (fun q => q) _).trans hxc.2
          have hbd := HRv.out p (List.mem_of_getElem? hx)
          have HTm := Lib.hid (take_map hx)
          have hrt : runT p = Lib.itoa p.1 ++ (if p.1 < p.2 then thru ++ Lib.itoa p.2 else []) := rfl
          clear hc1 hxc hx
          obtain ⟨pa, pb⟩ := p
          dsimp only at e0 e1 hbd hrt
          have ha64 : I64 pa := by unfold I64; omega
          have hb64 : I64 pb := by unfold I64; omega
          have la := Lib.itoa_length_le pa ha64.1 ha64.2
          have lb := Lib.itoa_length_le pb hb64.1 hb64.2
          have sa := bytes_size (Lib.itoa pa)
          have sb := bytes_size (Lib.itoa pb)
          go_wp2_with fail
          have MA := Lib.hid (J.out.alloc (.cells #[.int .i64 pa, .int .i64 pb] 62))
          have OA := Lib.hid (J1.out.alloc (.cells #[.int .i64 pa, .int .i64 pb] 62))
          have BA := Lib.hid (Blk.new wr #[.int .i64 pa, .int .i64 pb] 62)
          have HI1 := Lib.hid (itoa_any pa ha64 _ (HL.out.same (K2.out.same MA.out)))
          generalize wr.alloc _ = WA at *
          refine HI1.out.mono ?_
          rintro e w3 ⟨rfl, M⟩
          have M3 := Lib.hid (MA.out.same M)
          have O3 := Lib.hid (owns_same OA.out M)
          have B3 := Lib.hid (BA.out.mod M (fun q => q))
          clear M MA OA BA HI1 e0 e1
          have hc := B3.out.cell
          have hs3 := M3.out.size
          by_cases hab : pa < pb
          · rw [if_pos hab] at hrt
            have HI2 := Lib.hid (itoa_any pb hb64 w3 (HL.out.same (K2.out.same M3.out)))
            have HRT := Lib.hid hrt
            clear hrt
            have E1 := Lib.hid (str_app (Lib.itoa pa) (thru ++ Lib.itoa pb))
            have E2 := Lib.hid (str_app thru (Lib.itoa pb))
            have E3 := Lib.hid (show (⟨thru.toArray⟩ : ByteArray) = ⟨#[226, 128, 166]⟩ from rfl)
            have d1 : decide (pb > pa) = true := decide_eq_true hab
            have d2 : decide (pa < pb) = true := decide_eq_true hab
            go_wp2_with fail
            refine HI2.out.mono ?_
            rintro e w4 ⟨rfl, M⟩
            have M4 := Lib.hid (M3.out.same M)
            have O4 := Lib.hid (owns_same O3.out M)
            clear M M3 O3 HI2
            have hs4 := M4.out.size
            generalize hia : Lib.itoa pa = ia at *
            generalize hib : Lib.itoa pb = ib at *
            go_wp2_with (at_builtin; refine wpList_append_own _ rfl (.tmp 37) (.tmp 39) 82 rfl w2.heap.size 9 i0 (.string ⟨#[]⟩) 1 16 Tryd.underlying82 I0.out Z0.out Z1.out Z2.out rfl (by decide) _ _ _ rfl (O4.out.alloc _) ⟨w4.heap.size, 0, none⟩ 1 1 [.string (⟨ia.toArray⟩ ++ (⟨#[226, 128, 166]⟩ ++ ⟨ib.toArray⟩))] rfl rfl (one_new _ _ _) (fun u hu => (by simp at hu; subst hu; rfl)) (by unfold maxLen; omega) (by omega) (by simp only [World.size_alloc]; omega) ?_; intro v' w5 hown' hgrow _)
            have P1 := Lib.hid (same_append M4.out O4.out hgrow)
            have P2 := Lib.hid hown'
            clear hown' hgrow
            go_roundw
            case rel =>
              refine ⟨k + 1, by omega, by go_num, ?_, P1.out⟩
              rw [HTm.out]
              have hs : strB (pa, pb) = ⟨ia.toArray⟩ ++ (⟨#[226, 128, 166]⟩ ++ ⟨ib.toArray⟩) := by
                unfold strB; rw [HRT.out, ← E1.out, ← E2.out, E3.out]
              rw [hs]; exact P2.out
            case measure => simp [intOf]; omega
          · rw [if_neg hab, List.append_nil] at hrt
            have HRT := Lib.hid hrt
            clear hrt
            have d1 : decide (pb > pa) = false := decide_eq_false (by omega)
            have d2 : decide (pa < pb) = false := decide_eq_false hab
            generalize hia : Lib.itoa pa = ia at *
            go_wp2_with (at_builtin; refine wpList_append_own _ rfl (.tmp 37) (.tmp 39) 82 rfl w2.heap.size 9 i0 (.string ⟨#[]⟩) 1 16 Tryd.underlying82 I0.out Z0.out Z1.out Z2.out rfl (by decide) _ _ _ rfl (O3.out.alloc _) ⟨w3.heap.size, 0, none⟩ 1 1 [.string ⟨ia.toArray⟩] rfl rfl (one_new _ _ _) (fun u hu => (by simp at hu; subst hu; rfl)) (by unfold maxLen; omega) (by omega) (by simp only [World.size_alloc]; omega) ?_; intro v' w5 hown' hgrow _)
            have P1 := Lib.hid (same_append M3.out O3.out hgrow)
            have P2 := Lib.hid hown'
            clear hown' hgrow
            go_roundw
            case rel =>
              refine ⟨k + 1, by omega, by go_num, ?_, P1.out⟩
              rw [HTm.out]
              have hs : strB (pa, pb) = ⟨ia.toArray⟩ := by unfold strB; rw [HRT.out]
              rw [hs]; exact P2.out
            case measure => simp [intOf]; omega
        · obtain rfl : k = nr := by omega
          rw [show Rn.take k = Rn from List.take_of_length_le (by rw [HNR.out]; exact Nat.le_refl _)] at J1
          obtain ⟨g, cg, rfl, hg0, hgc, hrow⟩ := RowV.of_owns J1.out (by omega)
          have HJ := Lib.hid (Tryd.strings_Join g 0 cg (Rn.map strB) ⟨#[216, 140]⟩ wr (fun j x hx => by
            have hj : j < Rn.length := by have := (List.getElem?_eq_some_iff.1 hx).1; simpa using this
            rw [Nat.zero_add, hrow.cell j (by rw [HNR.out] at hj; omega), List.getD_eq_getElem?_getD, List.getElem?_map]
            rw [List.getElem?_map] at hx
            obtain ⟨p, hp, rfl⟩ := Option.map_eq_some_iff.1 hx
            rw [hp]; rfl) hrow.lt (by rw [List.length_map, HNR.out]; omega) (by rw [List.length_map, HNR.out]; exact hgc) (by
              show (Lib.join _ [216, 140]).length ≤ _
              rw [HJn.out]; have := HTl.out; omega))
          rw [show (⟨#[216, 140]⟩ : ByteArray).data.toList = [216, 140] from rfl, HJn.out, List.length_map, HNR.out] at HJ
          have K3 := Lib.hid (K2.out.same J.out)
          unfold strV at HR
          clear hrow J1 J K2
          go_wp2_with fail
          refine HJ.out.mono ?_
          rintro e w4 ⟨rfl, hb⟩
          have K4 := Lib.hid (K3.out.same (Same.of_below hb))
          clear hb
          go_wp2
          exact HR.out _ _ ⟨rfl, K4.out⟩
end Go.Proofs.YthkcdoneghcglaaDoor
