import Derived.Test.YthkcdoneghcglaaDoorBndO
import Derived.Test.YthkcdoneghcglaaDoorBndE
set_option linter.unusedSimpArgs false
set_option linter.unusedVariables false
/- band.Gaps. -/
namespace Go.Proofs.YthkcdoneghcglaaDoor
open Go Go.RowKit
def gL (W : Int) : Int → List (Int × Int) → List (Int × Int)
  | _, [] => []
  | t, p :: R => (if t < min p.1 W then [(t, min p.1 W - t)] else []) ++ gL W (p.2 + 1) R
def gapsL (A : List Int) (W : Int) : List (Int × Int) := if goodI A = true then gL (min W 10000) 0 (runs A ++ [(10000, 10000)]) else []
def GaV (A : List Int) (W : Int) (e : Ending) (w' : World) : Prop := ∃ a c, e = .returned (.slice a (gapsL A W).length c) ∧ Fds w' a (gapsL A W)
theorem dropP {l : List (Int × Int)} {i : Nat} {c : Int × Int} (h : l[i]? = some c) : l.drop i = c :: l.drop (i + 1) := by
  obtain ⟨hlt, rfl⟩ := List.getElem?_eq_some_iff.1 h
  exact List.drop_eq_getElem_cons hlt
set_option maxRecDepth 10000 in
set_option maxHeartbeats 8000000 in
theorem gaps_any (a : Option Addr) (c : Nat) (A : List Int) (W : Int) (hW : I64 W) (w : World) (hl : A.length ≤ 100000) (hI : Ins w a A) :
    Calls Tryd.prog 29 #[.slice a A.length c, .int .i64 W] w fun e w' => GaV A W e w' ∧ Same w w' := by
  refine opq fun R HR => ?_
  unfold GaV gapsL at HR
  unfold I64 at hW
  have IA := Lib.hid hI
  have S1 := Lib.hid (isSet_any a c A w (by omega) hI)
  have RU := Lib.hid (fun (hg : goodI A = true) w' (M : Same w w') => runs_any a c A w' (by omega) (hI.same M) hg)
  have hrl := runs_len A
  obtain ⟨na, hna⟩ : ∃ n, A.length = n := ⟨_, rfl⟩
  rw [hna] at S1 RU hl hrl ⊢
  clear hI hna
  obtain ⟨i0, hi, hz0, hz1, hz2⟩ := info_parts info62
  have I0 := Lib.hid hi
  have Z0 := Lib.hid hz0
  have Z1 := Lib.hid hz1
  have Z2 := Lib.hid hz2
  clear hi hz0 hz1 hz2
  cases hg : goodI A with
  | false =>
    rw [hg, if_neg (by decide)] at HR
    go_enter Tryd.func29, Tryd.ntmps29
    go_wp2_with fail
    refine S1.out.mono ?_
    rintro e w1 ⟨rfl, M⟩
    rw [hg]
    go_wp2
    exact HR.out _ _ ⟨⟨none, 0, rfl, fun h => by simp at h⟩, M⟩
  | true =>
    rw [hg, if_pos rfl] at HR
    have hvr := vr_i64 (runs A) (-1) (by decide) (vr_runs hg)
    have HBd : Hid (∀ p ∈ runs A ++ [(10000, 10000)], 0 ≤ p.1 ∧ p.1 ≤ 10000 ∧ 0 ≤ p.2 ∧ p.2 ≤ 10000) := Lib.hid (fun p hp => by
      rcases List.mem_append.1 hp with h | h
      · have := hvr p h; omega
      · simp at h; subst h; simp)
    have HX := Lib.hid (RU.out hg)
    clear hvr RU
    obtain ⟨W2, hW2⟩ : ∃ W2, min W 10000 = W2 := ⟨_, rfl⟩
    rw [hW2] at HR
    have hW3 : W2 ≤ 10000 ∧ -9223372036854775808 ≤ W2 := by omega
    go_enter Tryd.func29, Tryd.ntmps29
    go_wp2_with fail
    refine S1.out.mono ?_
    rintro e w1 ⟨rfl, M⟩
    rw [hg]
    have K1 := Lib.hid M
    clear M S1 hg
    go_wp2_with fail
    refine (HX.out _ K1.out).mono ?_
    rintro e w2 ⟨⟨v, rfl, hown⟩, M⟩
    have O2 := Lib.hid hown
    have M2 := Lib.hid M
    have hs2 := M.size
    clear M hown HX
    generalize hrr : runs A = RA at *
    obtain ⟨nr, hnr⟩ : ∃ n, RA.length = n := ⟨_, rfl⟩
    rw [hnr] at O2 hrl
    have HNR := Lib.hid hnr
    clear hnr hrr
    obtain ⟨nn, hnn⟩ : ∃ n, (RA ++ [((10000 : Int), (10000 : Int))]).length = n := ⟨_, rfl⟩
    have hRl : nn ≤ 100001 := by rw [← hnn, List.length_append, HNR.out]; simp; omega
    have HNN := Lib.hid hnn
    clear hnn
    go_wp2_with (at_builtin; refine wpList_append_own _ rfl (.tmp 15) (.tmp 17) 60 rfl w1.heap.size 62 i0 (.agg #[.int .i64 0, .int .i64 0]) 2 16 Tryd.underlying60 I0.out Z0.out Z1.out Z2.out rfl (by decide) _ _ _ rfl (O2.out.alloc _) ⟨w2.heap.size, 0, none⟩ 1 1 (fC (10000, 10000)) rfl rfl (two_new w2 (10000, 10000) _) (fun u hu => (by simp at hu; rcases hu with rfl | rfl <;> rfl)) (by unfold maxLen; omega) (by omega) (by simp only [World.size_alloc]; omega) ?_; intro v3 w3 hown' hgrow _; have hown2 : w3.ownsRow w1.heap.size 62 2 v3 (RA ++ [(10000, 10000)]).length ((RA ++ [(10000, 10000)]).flatMap fC) := (by rw [List.length_append, HNR.out, List.flatMap_append]; simpa using hown'); clear hown'; obtain ⟨av, cv, rfl, hcv, hfd⟩ := fds_own hown2; rw [HNN.out])
    have K3 := Lib.hid (K1.out.same (same_append M2.out O2.out hgrow))
    have FD := Lib.hid hfd
    clear hown2 hgrow hfd hcv O2 M2 K1
    generalize RA ++ [(10000, 10000)] = RR at *
    clear hW2
    go_wp2_with fail
    go_loopw [20, 4, 5] (fun vi o vt wr => ∃ (k : Nat) (t : Int) (G : List (Int × Int)), k ≤ nn ∧ vi = .int .i64 (k : Int) ∧ vt = .int .i64 t ∧ 0 ≤ t ∧ t ≤ 10001 ∧ G.length ≤ k ∧ G ++ gL W2 t (RR.drop k) = gL W2 0 RR ∧ wr.ownsRow w3.heap.size 62 2 o G.length (G.flatMap fC) ∧ Same w3 wr) (fun vi _ _ _ => nn - (intOf vi).toNat)
    case atStart => exact ⟨0, 0, [], by omega, rfl, rfl, by omega, by omega, by simp, by simp, World.ownsRow_nil _ _ _ _, Mod.refl _ _⟩
    case round =>
      obtain ⟨k, t, G, hk, rfl, rfl, ht0, ht1, hGl, hgo, hown, M⟩ := hrel
      have J1 := Lib.hid hown
      have J := Lib.hid M
      have HGo := Lib.hid hgo
      have hsz : w3.heap.size ≤ wr.heap.size := M.size
      clear hown M hgo
      by_cases hlt : k < nn
      · obtain ⟨b1, o1, rfl, hb1, hc1⟩ := FD.out (by rw [HNN.out]; omega)
        obtain ⟨p, hx⟩ : ∃ p, RR[k]? = some p := ⟨_, List.getElem?_eq_getElem (by rw [HNN.out]; exact hlt)⟩
        have hxc := hc1 k p hx
        have e0 := (J.out.cell hb1 (fun q => q) _).trans hxc.1
        have e1 := (J.out.cell hb1 (fun q => q) _).trans hxc.2
        have hbd := HBd.out p (List.mem_of_getElem? hx)
        have hdr := HGo.out
        rw [dropP hx, gL, ← List.append_assoc] at hdr
        clear hc1 hxc hx HGo
        obtain ⟨pa, pb⟩ := p
        dsimp only at e0 e1 hbd hdr
        obtain ⟨hv, hh⟩ : ∃ hv, min pa W2 = hv := ⟨_, rfl⟩
        rw [hh] at hdr
        have hhb : -9223372036854775808 ≤ hv ∧ hv ≤ 10000 := by omega
        have HDr := Lib.hid hdr
        clear hdr
        by_cases hth : t < hv
        · have d1 : decide (hv > t) = true := decide_eq_true hth
          have d2 : decide (t < hv) = true := decide_eq_true hth
          rw [if_pos hth] at HDr
          go_wp2_with (at_builtin; refine wpList_append_own _ rfl (.tmp 31) (.tmp 37) 60 rfl w3.heap.size 62 i0 (.agg #[.int .i64 0, .int .i64 0]) 2 16 Tryd.underlying60 I0.out Z0.out Z1.out Z2.out rfl (by decide) _ _ _ rfl ((J1.out.alloc _).alloc _) ⟨wr.heap.size + 1, 0, none⟩ 1 1 (fC (t, hv - t)) rfl rfl (by have := two_new (wr.alloc (.cells #[.int .i64 pa, .int .i64 pb] 62)) (t, hv - t) 62; simpa only [World.size_alloc] using this) (fun u hu => (by simp at hu; rcases hu with rfl | rfl <;> rfl)) (by unfold maxLen; omega) (by omega) (by simp only [World.size_alloc]; omega) ?_; intro v4 w4 hown4 hgrow _; have c1 : w4.cell? ⟨wr.heap.size, 1, none⟩ = some (.int .i64 pb) := ((Blk.new wr #[.int .i64 pa, .int .i64 pb] 62).mod (((Mod.refl _ (wr.alloc (.cells #[.int .i64 pa, .int .i64 pb] 62))).alloc _).grown hgrow (fun k hk _ => hk)) (fun e => by have := J1.out.lt _ e; omega)).cell 1)
          have P1 := Lib.hid (same_append (J.out.alloc _) (J1.out.alloc _) hgrow)
          have P2 := Lib.hid (show w4.ownsRow w3.heap.size 62 2 v4 (G ++ [(t, hv - t)]).length ((G ++ [(t, hv - t)]).flatMap fC) by rw [List.length_append, List.flatMap_append]; simpa using hown4)
          clear hown4 hgrow
          go_roundw
          case rel => exact ⟨k + 1, pb + 1, G ++ [(t, hv - t)], by omega, by go_num, by first | rfl | go_num, by omega, by omega, by simp; omega, HDr.out, P2.out, P1.out⟩
          case measure => simp [intOf]; omega
        · have d1 : decide (hv > t) = false := decide_eq_false (by omega)
          have d2 : decide (t < hv) = false := decide_eq_false hth
          rw [if_neg hth, List.append_nil] at HDr
          go_wp2_with fail
          go_roundw
          case rel => exact ⟨k + 1, pb + 1, G, by omega, by go_num, by first | rfl | go_num, by omega, by omega, by omega, HDr.out, J1.out.alloc _, J.out.alloc _⟩
          case measure => simp [intOf]; omega
      · obtain rfl : k = nn := by omega
        have hd := HGo.out
        rw [List.drop_of_length_le (by rw [HNN.out]; exact Nat.le_refl _), gL, List.append_nil] at hd
        rw [← hd] at HR
        obtain ⟨a', c', rfl, _, hfd⟩ := fds_own J1.out
        have HFd := Lib.hid hfd
        have K4 := Lib.hid (K3.out.same J.out)
        clear hd hfd J1 J HGo
        go_wp2
        exact HR.out _ _ ⟨⟨_, _, rfl, HFd.out⟩, K4.out⟩
end Go.Proofs.YthkcdoneghcglaaDoor
