import Derived.Test.YthkcdoneghcglaaDoorBndM
set_option linter.unusedSimpArgs false
set_option linter.unusedVariables false
/- band.some. -/
namespace Go.Proofs.YthkcdoneghcglaaDoor
open Go Go.RowKit
theorem c53_any (x y : Bool) (w : World) : Calls Tryd.prog 53 #[.bool x, .bool y] w fun e w' => e = .returned (.bool (x && !y)) ∧ Same w w' := by
  refine opq fun R HR => ?_
  cases x <;> cases y <;> (go_enter Tryd.func53, Tryd.ntmps53; go_wp2; exact HR.out _ _ ⟨rfl, Mod.refl _ _⟩)
theorem c52_any (x y : Bool) (w : World) : Calls Tryd.prog 52 #[.bool x, .bool y] w fun e w' => e = .returned (.bool (x && y)) ∧ Same w w' := by
  refine opq fun R HR => ?_
  cases x <;> cases y <;> (go_enter Tryd.func52, Tryd.ntmps52; go_wp2; exact HR.out _ _ ⟨rfl, Mod.refl _ _⟩)
theorem c51_any (x y : Bool) (w : World) : Calls Tryd.prog 51 #[.bool x, .bool y] w fun e w' => e = .returned (.bool true) ∧ Same w w' := by
  refine opq fun R HR => ?_
  go_enter Tryd.func51, Tryd.ntmps51; go_wp2; exact HR.out _ _ ⟨rfl, Mod.refl _ _⟩
theorem append_ins {w : World} {ops : Array Oper} {rest : List Oper} {o : Oper} {a : Act} {Q : Exit → Act → World → Prop} (hgd : o.guard = none) (s x : Operand)
    (ho : o.op = .call { callee := .builtin .append, args := #[s, x], argTypes := #[29, 29] })
    (base : Nat) (i : TypeInfo) (hi : Tryd.prog.info? 3 = some i) (hz : i.zero = some (.int .i64 0)) (hsize : i.size = 1) (hby : i.bytes = 8)
    (v : Value) (L : List Int) (hs : a.eval s = v) (hown : w.ownsRow base 3 1 v L.length (L.map (Value.int .i64)))
    (b : Option Addr) (c : Nat) (B : List Int) (m : Nat) (hm : B.length = m) (hx : a.eval x = .slice b m c) (hI : Ins w b B) (hbn : b = none → m = 0 ∧ c = 0)
    (h63 : L.length + m ≤ 4000000) (hbase : base ≤ w.heap.size)
    (h : ∀ v' w', w'.ownsRow base 3 1 v' (L ++ B).length ((L ++ B).map (Value.int .i64)) → w.grownBy w' v.ownBlock → wpList Tryd.prog ops Q rest (a.put o.dst v') w') : wpList Tryd.prog ops Q (o :: rest) a w := by
  cases b with
  | none =>
    obtain ⟨rfl, rfl⟩ := hbn rfl
    obtain rfl : B = [] := List.eq_nil_of_length_eq_zero hm
    refine wpList_append_own_none hgd s x 29 ho base 3 i 1 Tryd.underlying29 hi v _ _ hs hown hx ?_
    exact h v w (by rw [List.append_nil]; exact hown) ⟨rfl, rfl, rfl, Nat.le_refl _, fun _ _ _ => rfl⟩
  | some ad =>
    refine wpList_append_own w hgd s x 29 ho base 3 i (.int .i64 0) 1 8 Tryd.underlying29 hi hz hsize hby rfl (by decide) v _ _ hs hown ad m c (B.map (Value.int .i64)) hx (by rw [List.length_map]; omega) ?_ ?_ (by unfold maxLen; omega) (by omega) hbase ?_
    · intro j u hj
      rw [List.getElem?_map] at hj
      obtain ⟨y, hy, rfl⟩ := Option.map_eq_some_iff.1 hj
      have hjl := (List.getElem?_eq_some_iff.1 hy).1
      obtain ⟨b1, o1, e, _, hc⟩ := hI (by omega)
      cases e
      have := hc j y hy
      by_cases hj0 : j = 0
      · subst hj0; simpa [Addr.add] using this
      · simpa [Addr.add, hj0] using this
    · intro u hu
      obtain ⟨y, _, rfl⟩ := List.mem_map.1 hu
      rfl
    · intro v' w' h1 h2 _
      exact h v' w' (by rw [List.length_append, hm, List.map_append]; exact h1) h2
def SoV (f : Bool → Bool → Bool) (A B : List Int) (e : Ending) (w' : World) : Prop := ∃ a c, e = .returned (.slice a (someL f A B).length c) ∧ Ins w' a (someL f A B) ∧ (a = none → c = 0)
theorem fil_snoc {U : List Int} {k : Nat} {x : Int} (p : Int → Bool) (h : U[k]? = some x) : (U.take (k + 1)).filter p = (U.take k).filter p ++ (if p x = true then [x] else []) := by
  rw [List.take_add_one, h, List.filter_append]
  congr 1
  cases hp : p x <;> simp [hp]
set_option maxRecDepth 10000 in
set_option maxHeartbeats 8000000 in
theorem some_any (m : Nat) (hm : m = 51 ∨ m = 52 ∨ m = 53) (f : Bool → Bool → Bool) (hf : ∀ x y w, Calls Tryd.prog m #[.bool x, .bool y] w fun e w' => e = .returned (.bool (f x y)) ∧ Same w w')
    (a b : Option Addr) (ca cb : Nat) (A B : List Int) (w : World) (hla : A.length ≤ 100000) (hlb : B.length ≤ 100000) (hA : Ins w a A) (hB : Ins w b B) (hbn : b = none → cb = 0) :
    Calls Tryd.prog 50 #[.slice a A.length ca, .slice b B.length cb, .func (.func m) #[] #[]] w fun e w' => SoV f A B e w' ∧ Same w w' := by
  refine opq fun R HR => ?_
  unfold SoV someL at HR
  have HF := Lib.hid hf
  have HMm := Lib.hid hm
  clear hm
  have IA := Lib.hid hA
  have IB := Lib.hid hB
  have hb00 : b = none → B.length = 0 := fun h => by
    rcases Nat.eq_zero_or_pos B.length with q | q
    · exact q
    · obtain ⟨_, _, e, _⟩ := hB q
      rw [h] at e; cases e
  have HBN := Lib.hid (show b = none → B.length = 0 ∧ cb = 0 from fun h => ⟨hb00 h, hbn h⟩)
  clear hb00
  have S1 := Lib.hid (isSet_any a ca A w (by omega) hA)
  have S2 := Lib.hid (fun w' (M : Same w w') => isSet_any b cb B w' (by omega) (hB.same M))
  have C1 := Lib.hid (fun w' (M : Same w w') => clone_any a ca A w' (by omega) (hA.same M))
  have Q1 := Lib.hid (fun (hg : goodI A = true) x w' (M : Same w w') => bsearch_any a ca A x w' (by omega) (hA.same M) (good_le hg))
  have Q2 := Lib.hid (fun (hg : goodI B = true) x w' (M : Same w w') => bsearch_any b cb B x w' (by omega) (hB.same M) (good_le hg))
  obtain ⟨na, hna⟩ : ∃ n, A.length = n := ⟨_, rfl⟩
  obtain ⟨nb, hnb⟩ : ∃ n, B.length = n := ⟨_, rfl⟩
  rw [hna] at S1 C1 Q1 hla ⊢
  rw [hnb] at S2 Q2 hlb HBN ⊢
  have HNA := Lib.hid hna
  have HNB := Lib.hid hnb
  clear hna hnb hf hA hB hbn
  obtain ⟨i0, hi, hz0, hz1, hz2⟩ := info_parts info3
  have I0 := Lib.hid hi
  have Z0 := Lib.hid hz0
  have Z1 := Lib.hid hz1
  have Z2 := Lib.hid hz2
  clear hi hz0 hz1 hz2
  cases hga : goodI A with
  | false =>
    rw [if_neg (by simp [hga])] at HR
    go_enter Tryd.func50, Tryd.ntmps50
    go_wp2_with fail
    refine S1.out.mono ?_
    rintro e w1 ⟨rfl, M⟩
    rw [hga]
    have K1 := Lib.hid M
    clear M
    go_wp2
    exact HR.out _ _ ⟨⟨none, 0, rfl, fun h => by simp at h, fun _ => rfl⟩, K1.out⟩
  | true =>
    cases hgb : goodI B with
    | false =>
      rw [if_neg (by simp [hgb])] at HR
      go_enter Tryd.func50, Tryd.ntmps50
      go_wp2_with fail
      refine S1.out.mono ?_
      rintro e w1 ⟨rfl, M⟩
      rw [hga]
      have K1 := Lib.hid M
      clear M
      go_wp2_with fail
      refine (S2.out _ K1.out).mono ?_
      rintro e w2 ⟨rfl, M⟩
      rw [hgb]
      have K2 := Lib.hid (K1.out.same M)
      clear M
      go_wp2
      exact HR.out _ _ ⟨⟨none, 0, rfl, fun h => by simp at h, fun _ => rfl⟩, K2.out⟩
    | true =>
      rw [if_pos ⟨hga, hgb⟩] at HR
      go_enter Tryd.func50, Tryd.ntmps50
      go_wp2_with fail
      refine S1.out.mono ?_
      rintro e w1 ⟨rfl, M⟩
      rw [hga]
      have K1 := Lib.hid M
      clear M S1
      go_wp2_with fail
      refine (S2.out _ K1.out).mono ?_
      rintro e w2 ⟨rfl, M⟩
      rw [hgb]
      have K2 := Lib.hid (K1.out.same M)
      clear M S2 K1
      go_wp2_with fail
      refine (C1.out _ K2.out).mono ?_
      rintro e w3 ⟨v3, rfl, hown, M⟩
      have O3 := Lib.hid hown
      have M3 := Lib.hid M
      have K3 := Lib.hid (K2.out.same M)
      have hs3 := M.size
      clear M hown C1
      go_wp2_with (at_builtin; refine append_ins rfl (.tmp 23) (.tmp 24) rfl w2.heap.size i0 I0.out Z0.out Z1.out Z2.out v3 A rfl (by rw [HNA.out]; exact O3.out) b cb B nb HNB.out rfl (IB.out.same K3.out) HBN.out (by rw [HNA.out]; omega) hs3 ?_; intro v4 w4 hown4 hgrow)
      have M4 := Lib.hid (same_grown M3.out O3.out hgrow)
      have hll : (A ++ B).length ≤ 200000 := by rw [List.length_append, HNA.out, HNB.out]; omega
      have HSo := Lib.hid (sort_any v4 (A ++ B) w2 w4 (by omega) hown4 M4.out)
      have hbl : (both A B).length ≤ 200000 := Nat.le_trans (both_len A B) (by rw [HNA.out, HNB.out]; omega)
      clear hown4 hgrow O3 M3
      refine HSo.out.mono ?_
      rintro e w5 ⟨rfl, hown5, M⟩
      have HCo := Lib.hid (compact_any v4 ((A ++ B).mergeSort fun x y => decide (x ≤ y)) w2 w5 (by rw [List.length_mergeSort]; omega) (by rw [List.length_mergeSort]; exact hown5) M)
      clear hown5 M HSo M4 hll K3
      go_wp2_with fail
      refine HCo.out.mono ?_
      rintro e w6 ⟨au, cu, rfl, hIU, M⟩
      have K6 := Lib.hid (K2.out.same M)
      clear M HCo K2
      unfold pick2 at HR
      rw [show Lib.compact ((A ++ B).mergeSort fun x y => decide (x ≤ y)) = both A B from rfl] at hIU ⊢
      have IU := Lib.hid hIU
      have HQ1 := Lib.hid (Q1.out hga)
      have HQ2 := Lib.hid (Q2.out hgb)
      clear hIU Q1 Q2 hga hgb
      generalize both A B = U at *
      obtain ⟨nu, hnu⟩ : ∃ n, U.length = n := ⟨_, rfl⟩
      rw [hnu] at hbl ⊢
      have HNU := Lib.hid hnu
      clear hnu
      go_wp2_with fail
      go_loopw [31, 6] (fun vi o wr => ∃ k : Nat, k ≤ nu ∧ vi = .int .i64 (k : Int) ∧ wr.ownsRow w6.heap.size 3 1 o ((U.take k).filter fun n => f (A.contains n) (B.contains n)).length (((U.take k).filter fun n => f (A.contains n) (B.contains n)).map (Value.int .i64)) ∧ Same w6 wr) (fun vi _ _ => nu - (intOf vi).toNat)
      case atStart => exact ⟨0, by omega, rfl, World.ownsRow_nil _ _ _ _, Mod.refl _ _⟩
      case round =>
        obtain ⟨k, hk, rfl, hown, M⟩ := hrel
        have J1 := Lib.hid hown
        have J := Lib.hid M
        have hsz : w6.heap.size ≤ wr.heap.size := M.size
        have hfl : ((U.take k).filter fun n => f (A.contains n) (B.contains n)).length ≤ 200000 := Nat.le_trans (List.length_filter_le _ _) (Nat.le_trans (List.length_take_le _ _) (by omega))
        clear hown M
        by_cases hlt : k < nu
        · obtain ⟨b1, o1, rfl, hb1, hc1⟩ := IU.out (by rw [HNU.out]; omega)
          obtain ⟨x, hx⟩ : ∃ x, U[k]? = some x := ⟨_, List.getElem?_eq_getElem (by rw [HNU.out]; exact hlt)⟩
          have e0 := (J.out.cell hb1 (fun q => q) _).trans (hc1 k x hx)
          have HSn := Lib.hid (fil_snoc (fun n => f (A.contains n) (B.contains n)) hx)
          clear hc1 hx
          have P1 := Lib.hid (HQ1.out x)
          have P2 := Lib.hid (HQ2.out x)
          generalize (U.take k).filter (fun n => f (A.contains n) (B.contains n)) = QQ at *
          generalize hca : A.contains x = pa at *
          generalize hcb : B.contains x = pb at *
          clear hca hcb
          go_wp2_with fail
          refine (P1.out _ (K6.out.same J.out)).mono ?_
          rintro e w7 ⟨n7, rfl, M⟩
          have J7 := Lib.hid (J.out.same M)
          have O7 := Lib.hid (owns_same J1.out M)
          clear M J1 J e0
          go_wp2_with fail
          refine (P2.out _ (K6.out.same J7.out)).mono ?_
          rintro e w8 ⟨n8, rfl, M⟩
          have J8 := Lib.hid (J7.out.same M)
          have O8 := Lib.hid (owns_same O7.out M)
          clear M J7 O7
          rcases HMm.out with rfl | rfl | rfl
          · go_wp2_with fail
            refine (HF.out pa pb _).mono ?_
            rintro e w9 ⟨rfl, M⟩
            have J9 := Lib.hid (J8.out.same M)
            have O9 := Lib.hid (owns_same O8.out M)
            have hs9 := J9.out.size
            clear M J8 O8
            cases hf : f pa pb with
            | false =>
              rw [hf, if_neg (by decide), List.append_nil] at HSn
              go_wp2_with fail
              go_roundw
              case rel => exact ⟨k + 1, by omega, by go_num, by rw [HSn.out]; exact O9.out, J9.out⟩
              case measure => simp [intOf]; omega
            | true =>
              rw [hf, if_pos rfl] at HSn
              go_wp2_with (at_builtin; refine wpList_append_own _ rfl (.tmp 51) (.tmp 53) 29 rfl w6.heap.size 3 i0 (.int .i64 0) 1 8 Tryd.underlying29 I0.out Z0.out Z1.out Z2.out rfl (by decide) _ _ _ rfl (O9.out.alloc _) ⟨w9.heap.size, 0, none⟩ 1 1 [.int .i64 x] rfl rfl (one_new _ _ _) (fun u hu => (by simp at hu; subst hu; rfl)) (by unfold maxLen; omega) (by omega) (by simp only [World.size_alloc]; omega) ?_; intro v' w10 hown' hgrow _)
              have R1 := Lib.hid (same_append J9.out O9.out hgrow)
              have R2 := Lib.hid hown'
              clear hown' hgrow
              go_roundw
              case rel => exact ⟨k + 1, by omega, by go_num, by rw [HSn.out, List.length_append, List.map_append]; exact R2.out, R1.out⟩
              case measure => simp [intOf]; omega
          · go_wp2_with fail
            refine (HF.out pa pb _).mono ?_
            rintro e w9 ⟨rfl, M⟩
            have J9 := Lib.hid (J8.out.same M)
            have O9 := Lib.hid (owns_same O8.out M)
            have hs9 := J9.out.size
            clear M J8 O8
            cases hf : f pa pb with
            | false =>
              rw [hf, if_neg (by decide), List.append_nil] at HSn
              go_wp2_with fail
              go_roundw
              case rel => exact ⟨k + 1, by omega, by go_num, by rw [HSn.out]; exact O9.out, J9.out⟩
              case measure => simp [intOf]; omega
            | true =>
              rw [hf, if_pos rfl] at HSn
              go_wp2_with (at_builtin; refine wpList_append_own _ rfl (.tmp 51) (.tmp 53) 29 rfl w6.heap.size 3 i0 (.int .i64 0) 1 8 Tryd.underlying29 I0.out Z0.out Z1.out Z2.out rfl (by decide) _ _ _ rfl (O9.out.alloc _) ⟨w9.heap.size, 0, none⟩ 1 1 [.int .i64 x] rfl rfl (one_new _ _ _) (fun u hu => (by simp at hu; subst hu; rfl)) (by unfold maxLen; omega) (by omega) (by simp only [World.size_alloc]; omega) ?_; intro v' w10 hown' hgrow _)
              have R1 := Lib.hid (same_append J9.out O9.out hgrow)
              have R2 := Lib.hid hown'
              clear hown' hgrow
              go_roundw
              case rel => exact ⟨k + 1, by omega, by go_num, by rw [HSn.out, List.length_append, List.map_append]; exact R2.out, R1.out⟩
              case measure => simp [intOf]; omega
          · go_wp2_with fail
            refine (HF.out pa pb _).mono ?_
            rintro e w9 ⟨rfl, M⟩
            have J9 := Lib.hid (J8.out.same M)
            have O9 := Lib.hid (owns_same O8.out M)
            have hs9 := J9.out.size
            clear M J8 O8
            cases hf : f pa pb with
            | false =>
              rw [hf, if_neg (by decide), List.append_nil] at HSn
              go_wp2_with fail
              go_roundw
              case rel => exact ⟨k + 1, by omega, by go_num, by rw [HSn.out]; exact O9.out, J9.out⟩
              case measure => simp [intOf]; omega
            | true =>
              rw [hf, if_pos rfl] at HSn
              go_wp2_with (at_builtin; refine wpList_append_own _ rfl (.tmp 51) (.tmp 53) 29 rfl w6.heap.size 3 i0 (.int .i64 0) 1 8 Tryd.underlying29 I0.out Z0.out Z1.out Z2.out rfl (by decide) _ _ _ rfl (O9.out.alloc _) ⟨w9.heap.size, 0, none⟩ 1 1 [.int .i64 x] rfl rfl (one_new _ _ _) (fun u hu => (by simp at hu; subst hu; rfl)) (by unfold maxLen; omega) (by omega) (by simp only [World.size_alloc]; omega) ?_; intro v' w10 hown' hgrow _)
              have R1 := Lib.hid (same_append J9.out O9.out hgrow)
              have R2 := Lib.hid hown'
              clear hown' hgrow
              go_roundw
              case rel => exact ⟨k + 1, by omega, by go_num, by rw [HSn.out, List.length_append, List.map_append]; exact R2.out, R1.out⟩
              case measure => simp [intOf]; omega
        · obtain rfl : k = nu := by omega
          have hin := ins_own J1.out
          rw [List.take_of_length_le (by rw [HNU.out]; exact Nat.le_refl _)] at hin J1
          obtain ⟨a', c', rfl, hins⟩ := hin
          have HIn := Lib.hid hins
          have K7 := Lib.hid (K6.out.same J.out)
          have HZ := Lib.hid (show a' = none → c' = 0 from fun h => by
            rcases J1.out.2 with ⟨e, _⟩ | ⟨g, _, _, e, _⟩
            · exact (Value.slice.inj e).2.2
            · have := (Value.slice.inj e).1; rw [h] at this; cases this)
          clear hins J1 J hfl
          generalize U.filter (fun n => f (A.contains n) (B.contains n)) = QQ at *
          go_wp2
          exact HR.out _ _ ⟨⟨_, _, rfl, HIn.out, HZ.out⟩, K7.out⟩
end Go.Proofs.YthkcdoneghcglaaDoor
