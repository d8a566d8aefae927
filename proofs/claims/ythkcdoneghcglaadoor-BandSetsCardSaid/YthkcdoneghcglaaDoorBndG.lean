import Derived.Test.YthkcdoneghcglaaDoorBndF
set_option linter.unusedSimpArgs false
set_option linter.unusedVariables false
/- band.Parse. -/
namespace Go.Proofs.YthkcdoneghcglaaDoor
open Go Go.RowKit
theorem splitC_len (l : List UInt8) : (Lib.splitB ⟨#[216, 140]⟩ 0 (Lib.countB ⟨l.toArray⟩ ⟨#[216, 140]⟩) ⟨l.toArray⟩).length = (spl2 l).length := by
  have := congrArg List.length (splitC_spl ⟨l.toArray⟩)
  rw [List.length_map] at this; exact this
theorem splitC_any (l : List UInt8) (hl : l.length ≤ 1000000) (w : World) (hL : LibOK w) : Calls Tryd.prog 47 #[.string ⟨l.toArray⟩, .string ⟨#[216, 140]⟩] w fun e w' => ∃ g, e = .returned (.slice (some ⟨g, 0, none⟩) (spl2 l).length (spl2 l).length) ∧ g < w'.heap.size ∧ (∀ i s, (spl2 l)[i]? = some s → w'.cell? ⟨g, i, none⟩ = some (strV s)) ∧ Same w w' := by
  obtain ⟨m, hm⟩ := hL.mx
  refine (Tryd.strings_Split ⟨l.toArray⟩ ⟨#[216, 140]⟩ m w (by rw [bytes_size]; omega) hm (by decide)).mono ?_
  rintro e w' ⟨rfl, rfl⟩
  have hc : Lib.countB ⟨l.toArray⟩ ⟨#[216, 140]⟩ + 1 = (spl2 l).length := by
    rw [← splitC_len, Lib.splitB_all _ (by decide) 0 _ _ rfl]
  refine ⟨w.heap.size, by rw [hc], by simp, fun i s hi => ?_, (Mod.refl _ _).alloc _⟩
  refine ((Blk.new w _ 9).cell i).trans ?_
  have e := splitC_spl ⟨l.toArray⟩
  have e2 : (⟨l.toArray⟩ : ByteArray).data.toList = l := rfl
  rw [e2] at e
  rw [← e, List.getElem?_map] at hi
  obtain ⟨x, hx, rfl⟩ := Option.map_eq_some_iff.1 hi
  rw [List.getElem?_toArray, List.getElem?_map, hx]
  rfl
theorem dropL {α : Type} {l : List α} {i : Nat} {c : α} (h : l[i]? = some c) : l.drop i = c :: l.drop (i + 1) := by
  obtain ⟨hlt, rfl⟩ := List.getElem?_eq_some_iff.1 h
  exact List.drop_eq_getElem_cons hlt
/-- What Parse hands back. -/
def PaB (o : Option (List Int)) (e : Ending) (w' : World) : Prop := match o with
  | some L => ∃ a c, e = .returned (.tuple #[.slice a L.length c, .int .i64 0]) ∧ Ins w' a L
  | none => e = .returned (.tuple #[.slice none 0 0, .int .i64 3])
theorem exp_snoc (R : List (Int × Int)) (q : Int × Int) : exp (R ++ [q]) = exp R ++ rng q.1 q.2 := by unfold exp; rw [List.flatMap_append]; simp
theorem rng_len (a b : Int) : (rng a b).length = (b + 1 - a).toNat := by unfold rng; simp
theorem spl2_wlen : ∀ l, ∀ w ∈ spl2 l, w.length ≤ l.length
  | [], w, h => by simp [spl2] at h; subst h; simp
  | [c], w, h => by simp [spl2] at h; subst h; simp
  | c :: d :: r, w, h => by
    rw [spl2] at h
    split at h
    · rcases List.mem_cons.1 h with rfl | h
      · simp
      · have := spl2_wlen r w h; simp; omega
    · have ih := spl2_wlen (d :: r)
      obtain ⟨v, vs, e⟩ := spl2_ne (d :: r)
      rw [e] at h ih
      dsimp only at h
      rcases List.mem_cons.1 h with rfl | h
      · have := ih v (by simp); simp at this ⊢; omega
      · have := ih w (by simp [h]); simp at this ⊢; omega
theorem spl2_cnt : ∀ l, (spl2 l).length ≤ l.length + 1
  | [] => by simp [spl2]
  | [c] => by simp [spl2]
  | c :: d :: r => by
    rw [spl2]
    split
    · have := spl2_cnt r; simp; omega
    · have ih := spl2_cnt (d :: r)
      obtain ⟨v, vs, e⟩ := spl2_ne (d :: r)
      rw [e] at ih ⊢
      simp at ih ⊢; omega
theorem pGo_bad {e : Int} {p : List UInt8} {ps : List (List UInt8)} {R : List (Int × Int)} {o : Option (List (Int × Int))} (h : (pGo e (p :: ps)).map (R ++ ·) = o) (hr : runP p = none ∨ ∃ q, runP p = some q ∧ q.1 ≤ e + 1) : o = none := by
  rw [pGo] at h
  rcases hr with hr | ⟨q, hr, hq⟩
  · rw [hr] at h; exact h.symm
  · rw [hr] at h; dsimp only at h; rw [if_pos hq] at h; exact h.symm
theorem pGo_go {e : Int} {p : List UInt8} {ps : List (List UInt8)} {R : List (Int × Int)} {o : Option (List (Int × Int))} {q : Int × Int} (h : (pGo e (p :: ps)).map (R ++ ·) = o) (hr : runP p = some q) (hq : ¬ q.1 ≤ e + 1) : (pGo q.2 ps).map ((R ++ [q]) ++ ·) = o := by
  rw [pGo, hr] at h
  dsimp only at h
  rw [if_neg hq, Option.map_map] at h
  rw [← h]; congr 1; funext z; simp
set_option maxRecDepth 10000 in
set_option maxHeartbeats 8000000 in
theorem bparse_any (S : List UInt8) (hS : S.length ≤ 100000) (w : World) (hL : LibOK w) : Calls Tryd.prog 22 #[strV S] w fun e w' => PaB (pPar S) e w' ∧ Same w w' := by
  refine opq fun R HR => ?_
  have HL := Lib.hid hL
  clear hL
  unfold strV
  unfold pPar at HR
  by_cases hn : S = nothing
  · rw [if_pos hn] at HR
    subst hn
    have HR2 := Lib.hid (HR.out)
    unfold nothing
    go_enter Tryd.func22, Tryd.ntmps22
    go_wp2
    exact HR.out _ _ ⟨⟨none, 0, rfl, fun h => by simp at h⟩, Mod.refl _ _⟩
  · rw [if_neg hn] at HR
    have hnb : (S == nothing) = false := by simp [hn]
    unfold nothing at hnb
    have HSp := Lib.hid (splitC_any S (by omega) w HL.out)
    have HWl := Lib.hid (spl2_wlen S)
    have hct := spl2_cnt S
    generalize hps : spl2 S = ps at *
    obtain ⟨np, hnp⟩ : ∃ np, ps.length = np := ⟨_, rfl⟩
    rw [hnp] at HSp hct
    have HNP := Lib.hid hnp
    obtain ⟨i0, hi, hz0, hz1, hz2⟩ := info_parts info3
    have I0 := Lib.hid hi
    have Z0 := Lib.hid hz0
    have Z1 := Lib.hid hz1
    have Z2 := Lib.hid hz2
    clear hi hz0 hz1 hz2 hnp hn hps
    go_enter Tryd.func22, Tryd.ntmps22
    go_wp2_with fail
    refine HSp.out.mono ?_
    rintro e w1 ⟨g, rfl, hg, hcg, M⟩
    have K1 := Lib.hid M
    have HC := Lib.hid hcg
    clear M hcg HSp
    go_wp2_with fail
    go_loopw [17, 4, 5] (fun vi o ve wr => ∃ (k : Nat) (E : Int) (Q : List (Int × Int)), vi = .int .i64 (k : Int) ∧ k ≤ np ∧ ve = .int .i64 E ∧ -2 ≤ E ∧ E ≤ 9999 ∧ ((exp Q).length : Int) ≤ E + 2 ∧ (pGo E (ps.drop k)).map (Q ++ ·) = pGo (-2) ps ∧ wr.ownsRow w1.heap.size 3 1 o (exp Q).length ((exp Q).map (Value.int .i64)) ∧ Same w1 wr) (fun vi _ _ _ => np - (intOf vi).toNat)
    case atStart => exact ⟨0, -2, [], rfl, by omega, rfl, by omega, by omega, by simp [exp], by simp, World.ownsRow_nil _ _ _ _, Mod.refl _ _⟩
    case round =>
      obtain ⟨k, E, Q, rfl, hk, rfl, hE0, hE1, hlen, hp, hown, M⟩ := hrel
      have J1 := Lib.hid hown
      have J := Lib.hid M
      have HP := Lib.hid hp
      have hsz : w1.heap.size ≤ wr.heap.size := M.size
      clear hown M hp
      by_cases hlt : k < np
      · obtain ⟨x, hx⟩ : ∃ x, ps[k]? = some x := ⟨_, List.getElem?_eq_getElem (by rw [HNP.out]; exact hlt)⟩
        have hcx := (J.out.cell hg (fun q => q) k).trans (HC.out k x hx)
        have hdr : ps.drop k = x :: ps.drop (k + 1) := dropL hx
        rw [hdr] at HP
        have hxl := HWl.out x (List.mem_of_getElem? hx)
        have HB := Lib.hid (brun_any x (by omega) wr (HL.out.same (K1.out.same J.out)))
        unfold strV at hcx HB
        unfold RuV at HB
        have HX := Lib.hid hx
        clear hdr hx
        cases hr : runP x with
        | none =>
          rw [hr] at HB
          dsimp only at HB
          rw [pGo_bad HP.out (.inl hr)] at HR
          clear hr
          go_wp2_with fail
          refine HB.out.mono ?_
          rintro e w2 ⟨⟨a, b, rfl⟩, M⟩
          have K2 := Lib.hid ((K1.out.same J.out).same M)
          clear M
          go_wp2
          exact HR.out _ _ ⟨rfl, K2.out⟩
        | some q =>
          rw [hr] at HB
          dsimp only at HB
          obtain ⟨hq0, hq1, hq2⟩ := (runP_some hr).2
          by_cases hle : q.1 ≤ E + 1
          · rw [pGo_bad HP.out (.inr ⟨q, hr, hle⟩)] at HR
            clear hr
            obtain ⟨q1, q2⟩ := q
            dsimp only at hq0 hq1 hq2 hle
            go_wp2_with fail
            refine HB.out.mono ?_
            rintro e w2 ⟨rfl, M⟩
            have K2 := Lib.hid ((K1.out.same J.out).same M)
            clear M
            go_wp2
            exact HR.out _ _ ⟨rfl, K2.out⟩
          · have HP2 := Lib.hid (pGo_go HP.out hr hle)
            have HX2 := Lib.hid (exp_snoc Q q)
            clear hr HP
            obtain ⟨q1, q2⟩ := q
            dsimp only at hq0 hq1 hq2 hle HX2 HP2
            go_wp2_with fail
            refine HB.out.mono ?_
            rintro e w2 ⟨rfl, M⟩
            have J2 := Lib.hid (J.out.same M)
            have O2 := Lib.hid (owns_same J1.out M)
            have hs2 := J2.out.size
            clear M HB J1 J hcx
            go_wp2_with fail
            go_loopw [11, 4] (fun vn o wz => ∃ c : Int, vn = .int .i64 c ∧ q1 ≤ c ∧ c ≤ q2 + 1 ∧ wz.ownsRow w1.heap.size 3 1 o (exp Q ++ rng q1 (c - 1)).length ((exp Q ++ rng q1 (c - 1)).map (Value.int .i64)) ∧ Same w1 wz) (fun vn _ _ => (q2 + 1 - intOf vn).toNat)
            case atStart => exact ⟨q1, rfl, by omega, by omega, by rw [rng_nil _ _ (by omega), List.append_nil]; exact O2.out, J2.out⟩
            case round =>
              obtain ⟨c, rfl, hc1, hc2, hown, M⟩ := hrel
              have O3 := Lib.hid hown
              have J3 := Lib.hid M
              have hs3 := J3.out.size
              clear hown M
              by_cases hcl : c ≤ q2
              · have hrs : rng q1 (c + 1 - 1) = rng q1 (c - 1) ++ [c] := by
                  have := rng_snoc q1 (c - 1) (by omega)
                  rw [show c - 1 + 1 = c by omega] at this
                  rw [show c + 1 - 1 = c by omega]; exact this
                have HRS := Lib.hid hrs
                have hrl := rng_len q1 (c - 1)
                have hll : (exp Q ++ rng q1 (c - 1)).length ≤ 20000 := by rw [List.length_append, hrl]; omega
                clear hrs hrl
                generalize hLL : exp Q ++ rng q1 (c - 1) = LL at *
                have HLL := Lib.hid hLL
                clear hLL
                go_wp2_with (at_builtin; refine wpList_append_own _ rfl (.tmp 41) (.tmp 43) 29 rfl w1.heap.size 3 i0 (.int .i64 0) 1 8 Tryd.underlying29 I0.out Z0.out Z1.out Z2.out rfl (by decide) _ _ _ rfl (O3.out.alloc _) ⟨wr.heap.size, 0, none⟩ 1 1 [.int .i64 c] rfl rfl (one_new _ _ _) (fun u hu => (by simp at hu; subst hu; rfl)) (by unfold maxLen; omega) (by omega) (by simp only [World.size_alloc]; omega) ?_; intro v' w5 hown' hgrow _)
                have P1 := Lib.hid (same_append J3.out O3.out hgrow)
                have P2 := Lib.hid hown'
                clear hown' hgrow
                go_roundw
                case rel => exact ⟨c + 1, by go_num, by omega, by omega, by rw [HRS.out, ← List.append_assoc, HLL.out, List.length_append, List.map_append]; exact P2.out, P1.out⟩
                case measure => simp [intOf]; omega
              · obtain rfl : c = q2 + 1 := by omega
                rw [show q2 + 1 - 1 = q2 by omega] at O3
                rw [← HX2.out] at O3
                have hll : ((exp (Q ++ [(q1, q2)])).length : Int) ≤ q2 + 2 := by
                  rw [HX2.out, List.length_append, rng_len]; omega
                go_wp2_with fail
                go_roundw
                case rel => exact ⟨k + 1, q2, Q ++ [(q1, q2)], by go_num, by omega, rfl, by omega, hq2, hll, HP2.out, O3.out, J3.out⟩
                case measure => simp [intOf]; omega
      · obtain rfl : k = np := by omega
        have hd := HP.out
        rw [List.drop_of_length_le (by rw [HNP.out]; exact Nat.le_refl _)] at hd
        have : (pGo E []).map (Q ++ ·) = some Q := by simp [pGo]
        rw [this] at hd
        rw [← hd, Option.map_some] at HR
        obtain ⟨a', c', rfl, hins⟩ := ins_own J1.out
        have HIn := Lib.hid hins
        have K2 := Lib.hid (K1.out.same J.out)
        clear hins hd this HP J1 hlen
        generalize exp Q = LQ at *
        go_wp2
        exact HR.out _ _ ⟨⟨_, _, rfl, HIn.out⟩, K2.out⟩
end Go.Proofs.YthkcdoneghcglaaDoor
