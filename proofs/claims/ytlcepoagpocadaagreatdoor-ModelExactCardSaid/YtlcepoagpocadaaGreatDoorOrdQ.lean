import Derived.Lib.ItoaLen
import Derived.Test.YtlcepoagpocadaaGreatDoorOrdP
import Derived.Test.YtlcepoagpocadaaGreatDoorPackZN
set_option linter.unusedSimpArgs false
set_option linter.unusedVariables false
namespace Go.Proofs.YtlcepoagpocadaaGreatDoor
open Go Go.RowKit
def ordC (o : OW) : Array Value := (o.ns.map (Value.int .i64) ++ o.ts.map strV).toArray
def ordW (o : OW) : Value := .iface (kT o.k) (.agg (ordC o))
theorem len0 {α : Type} {l : List α} (h : l.length = 0) : l = [] := List.length_eq_zero_iff.1 h
theorem len1 {α : Type} {l : List α} (h : l.length = 1) : ∃ a, l = [a] := by
  match l, h with
  | [a], _ => exact ⟨a, rfl⟩
theorem len2 {α : Type} {l : List α} (h : l.length = 2) : ∃ a b, l = [a, b] := by
  match l, h with
  | [a, b], _ => exact ⟨a, b, rfl⟩
theorem len3 {α : Type} {l : List α} (h : l.length = 3) : ∃ a b c, l = [a, b, c] := by
  match l, h with
  | [a, b, c], _ => exact ⟨a, b, c, rfl⟩
theorem kinds15 {k : Nat} (h : k < 15) : k = 0 ∨ k = 1 ∨ k = 2 ∨ k = 3 ∨ k = 4 ∨ k = 5 ∨ k = 6 ∨ k = 7 ∨ k = 8 ∨ k = 9 ∨ k = 10 ∨ k = 11 ∨ k = 12 ∨ k = 13 ∨ k = 14 := by omega
theorem PartsV.fits {w : World} {ns ts : List Value} {e : Ending} {w' : World} (h : PartsV w ns ts e w') {b : Bool} (hb : b = true) : PartsB b w ns ts e w' := by subst hb; exact h
set_option maxRecDepth 10000 in
theorem parts_all (o : OW) (h : o.form) (w : World) : Calls Tryz.prog 73 #[ordW o] w (PartsB o.fits w (o.ns.map (Value.int .i64)) (o.ts.map strV)) := by
  obtain ⟨k, ns, ts⟩ := o
  have hk := h.lt
  have hn := h.nn
  have hd := h.nd
  dsimp only at hk hn hd
  clear h
  rcases kinds15 hk with rfl | rfl | rfl | rfl | rfl | rfl | rfl | rfl | rfl | rfl | rfl | rfl | rfl | rfl | rfl
  · obtain ⟨a, b, rfl⟩ := len2 hn; obtain rfl := len0 hd; exact (parts83 a b w).mono fun _ _ q => PartsV.fits q rfl
  · obtain ⟨a, rfl⟩ := len1 hn; obtain rfl := len0 hd; exact (parts62 a w).mono fun _ _ q => PartsV.fits q rfl
  · obtain ⟨a, b, rfl⟩ := len2 hn; obtain rfl := len0 hd; exact (parts98 a b w).mono fun _ _ q => PartsV.fits q rfl
  · obtain ⟨a, b, rfl⟩ := len2 hn; obtain rfl := len0 hd; exact (parts99 a b w).mono fun _ _ q => PartsV.fits q rfl
  · obtain ⟨a, rfl⟩ := len1 hn; obtain rfl := len0 hd; exact (parts61 a w).mono fun _ _ q => PartsV.fits q rfl
  · obtain ⟨a, rfl⟩ := len1 hn; obtain rfl := len0 hd; exact (parts100 a w).mono fun _ _ q => PartsV.fits q rfl
  · obtain ⟨a, b, c, rfl⟩ := len3 hn; obtain rfl := len0 hd; exact (parts102 a b c w).mono fun _ _ q => PartsV.fits q rfl
  · obtain ⟨a, b, rfl⟩ := len2 hn; obtain ⟨t, rfl⟩ := len1 hd
    exact parts104 a b ⟨t.toArray⟩ _ (by rw [bytes_size]; simp [OW.fits]) w
  · obtain ⟨a, b, c, rfl⟩ := len3 hn; obtain rfl := len0 hd; exact (parts105 a b c w).mono fun _ _ q => PartsV.fits q rfl
  · obtain rfl := len0 hn; obtain rfl := len0 hd; exact (parts57 w).mono fun _ _ q => PartsV.fits q rfl
  · obtain ⟨a, rfl⟩ := len1 hn; obtain rfl := len0 hd; exact (parts26 a w).mono fun _ _ q => PartsV.fits q rfl
  · obtain rfl := len0 hn; obtain rfl := len0 hd; exact (parts106 w).mono fun _ _ q => PartsV.fits q rfl
  · obtain rfl := len0 hn; obtain rfl := len0 hd; exact (parts107 w).mono fun _ _ q => PartsV.fits q rfl
  · obtain ⟨a, rfl⟩ := len1 hn; obtain rfl := len0 hd; exact (parts109 a w).mono fun _ _ q => PartsV.fits q rfl
  · obtain rfl := len0 hn; obtain ⟨t0, t1, t2, rfl⟩ := len3 hd
    exact parts111 ⟨t0.toArray⟩ ⟨t1.toArray⟩ ⟨t2.toArray⟩ _ (by rw [bytes_size, bytes_size, bytes_size]; simp [OW.fits, Bool.and_assoc]) w
/-- The strings of a line. -/
def lineO (o : OW) : List ByteArray := ⟨(wordL o.k).toArray⟩ :: (o.ns.map (fun n => (⟨(Lib.itoa n).toArray⟩ : ByteArray)) ++ o.ts.map fun t => ⟨(runesL t).toArray⟩)
theorem lineO_join (o : OW) : Lib.join ((lineO o).map (·.data.toList)) [32] = textO o := by
  unfold lineO textO; simp [List.map_map, Function.comp_def]
/-- The words of a line, behind m texts. -/
def wordsM (o : OW) (m : Nat) : List Value := wordsK o.k o.ns o.ns.length ++ (o.ts.take m).map fun t => .string ⟨(runesL t).toArray⟩
theorem wordsM_succ (o : OW) (m : Nat) (t : List UInt8) (h : o.ts[m]? = some t) : wordsM o (m + 1) = wordsM o m ++ [.string ⟨(runesL t).toArray⟩] := by
  obtain ⟨hk, rfl⟩ := List.getElem?_eq_some_iff.1 h
  unfold wordsM
  rw [List.take_succ_eq_append_getElem hk, List.map_append, List.append_assoc]; rfl
theorem wordsM_zero (o : OW) : wordsM o 0 = wordsK o.k o.ns o.ns.length := by unfold wordsM; simp
theorem wordsM_all (o : OW) : wordsM o o.ts.length = (lineO o).map Value.string := by
  unfold wordsM wordsK lineO
  rw [List.take_length, List.take_length]; simp [List.map_map, Function.comp_def]
theorem lineO_len (o : OW) : (lineO o).length = 1 + o.ns.length + o.ts.length := by unfold lineO; simp; omega
set_option maxRecDepth 10000 in
set_option maxHeartbeats 4000000 in
theorem text_ok (o : OW) (hf : o.form) (hfit : o.fits = true) (w : World) (hT : TabOK w) :
    Calls Tryz.prog 51 #[ordW o] w fun e w' => e = .returned (.tuple #[.string ⟨(textO o).toArray⟩, .int .i64 0]) ∧ Same w w' := by
  refine opq fun R HR => ?_
  have HP := Lib.hid (parts_all o hf)
  rw [hfit] at HP
  have HN := Lib.hid hf.i64
  have HT := Lib.hid hT
  have hj := hf.lt
  have hnl3 : o.ns.length ≤ 3 ∧ o.ts.length ≤ 3 := by
    have h1 := hf.nn
    have h2 := hf.nd
    have h3 : ∀ k, k < 15 → nN k ≤ 3 ∧ nD k ≤ 3 := by decide
    have := h3 o.k hj
    omega
  have htl : (textO o).length ≤ 140737488355328 := by
    unfold textO
    rw [Lib.join_length]
    have hi : ∀ x ∈ (o.ns.map Lib.itoa ++ o.ts.map runesL), x.length ≤ 1600 := by
      intro x hx
      rcases List.mem_append.1 hx with q | q
      · obtain ⟨n, hn, rfl⟩ := List.mem_map.1 q
        have := hf.i64 n hn
        have := Lib.itoa_length_le n this.1 this.2
        omega
      · obtain ⟨t, ht, rfl⟩ := List.mem_map.1 q
        have := runes_le t
        have h2 := List.all_eq_true.1 hfit t ht
        have h3 : t.length ≤ 512 := of_decide_eq_true h2
        omega
    have hlen : (o.ns.map Lib.itoa ++ o.ts.map runesL).length ≤ 6 := by simp; omega
    have hsum : ∀ (xs : List (List UInt8)), (∀ x ∈ xs, x.length ≤ 1600) → Lib.lens xs ≤ 1600 * xs.length := by
      intro xs
      induction xs with
      | nil => intro _; exact Nat.le_refl _
      | cons a l ih =>
        intro h
        have h1 := h a (by simp)
        have h2 := ih fun x hx => h x (by simp [hx])
        unfold Lib.lens at *
        rw [List.map_cons, List.sum_cons, List.length_cons]; omega
    have h1 := hsum _ hi
    have hw : (wordL o.k).length ≤ 7 := by
      have : ∀ k, k < 15 → (wordL k).length ≤ 7 := by decide
      exact this _ hj
    have e : Lib.lens (wordL o.k :: (o.ns.map Lib.itoa ++ o.ts.map runesL)) = (wordL o.k).length + Lib.lens (o.ns.map Lib.itoa ++ o.ts.map runesL) := by unfold Lib.lens; rw [List.map_cons, List.sum_cons]
    rw [e, List.length_singleton]; omega
  have HTL := Lib.hid htl
  have HTS := Lib.hid (show ∀ t ∈ o.ts, t.length ≤ 512 from fun t ht => of_decide_eq_true (List.all_eq_true.1 hfit t ht))
  clear hT htl hfit hf
  obtain ⟨n, hnl⟩ : ∃ n, o.ns.length = n := ⟨_, rfl⟩
  obtain ⟨d, hdl⟩ : ∃ d, o.ts.length = d := ⟨_, rfl⟩
  have HNL := Lib.hid hnl
  have HDL := Lib.hid hdl
  have hn3 : n ≤ 3 := by omega
  have hd3 : d ≤ 3 := by omega
  obtain ⟨T, hTj⟩ : ∃ T, kT o.k = T := ⟨_, rfl⟩
  have HTj := Lib.hid hTj
  unfold ordW at HP ⊢
  rw [hTj] at HP ⊢
  generalize ordC o = cs at *
  clear hnl hdl hTj hnl3
  go_enter Tryz.func51, Tryz.ntmps51
  go_wp2_with fail
  refine (HP.out _).mono ?_
  rintro e w1 ⟨a1, c1, a2, c2, rfl, r1, r2, M⟩
  rw [List.length_map, List.length_map, HNL.out, HDL.out]
  have K1 := Lib.hid r1
  have K2 := Lib.hid r2
  have S1 := Lib.hid M
  clear r1 r2 M HP
  go_upto_region 4 with fail
  go_cut [7] (fun v wx => ∃ g, v = .slice (some ⟨g, 0, none⟩) 1 1 ∧ wx.ownsRow w1.heap.size 9 1 v 1 [.string ⟨(wordL o.k).toArray⟩] ∧ Same w1 wx)
  case first => as_aux_lemma =>
    have hTT := HTj.out
    have h := kinds15 hj
    generalize o.k = j at *
    rcases h with rfl | rfl | rfl | rfl | rfl | rfl | rfl | rfl | rfl | rfl | rfl | rfl | rfl | rfl | rfl
    all_goals
      obtain rfl := hTT
      go_wp2_with go_in
      go_meet
      exact ⟨_, rfl, row_two _ _ _, ((Mod.refl _ w1).alloc _).alloc _⟩
  case rest =>
    obtain ⟨g0, rfl, hown, M⟩ := hcut
    obtain ⟨i0, hi, hz0, hz1, hz2⟩ := info_parts info9
    have I0 := Lib.hid hi
    have Z0 := Lib.hid hz0
    have Z1 := Lib.hid hz1
    have Z2 := Lib.hid hz2
    have W0 := Lib.hid hown
    have M0 := Lib.hid M
    clear hi hz0 hz1 hz2 hown M
    go_wp2_with fail
    go_loopw [25, 9, 7] (fun i _ v wr => ∃ k : Nat, k ≤ n ∧ i = .int .i64 k ∧ wr.ownsRow w1.heap.size 9 1 v (1 + k) (wordsK o.k o.ns k) ∧ Same w1 wr) (fun i _ _ _ => n - (intOf i).toNat)
    case atStart => exact ⟨0, by omega, rfl, W0.out, M0.out⟩
    case round =>
      obtain ⟨k, hk, rfl, hown, M⟩ := hrel
      by_cases hlt : k < n
      · have hkL : k < o.ns.length := by rw [HNL.out]; exact hlt
        obtain ⟨x, hx⟩ : ∃ x, o.ns[k]? = some x := ⟨_, List.getElem?_eq_getElem hkL⟩
        obtain ⟨b, o1, rfl, hb0, hb, _, hc⟩ := K1.out (by rw [List.length_map]; omega)
        have hcx := (M.cell hb (fun q => q) (o1 + k)).trans (hc k (.int .i64 x) (by rw [List.getElem?_map, hx]; rfl))
        have hxm : J64 x := HN.out x (List.mem_of_getElem? hx)
        have HI := Lib.hid (itoa_any x hxm wr (tab_same HT.out (S1.out.same M)))
        have E := Lib.hid (wordsK_succ o.k o.ns k x hx)
        have K5 := Lib.hid hown
        have K6 := Lib.hid M
        clear hown M hx hc hkL hxm
        go_wp2_with fail
        refine HI.out.mono ?_
        rintro e w2 ⟨rfl, M2⟩
        have K7 := Lib.hid (owns_same K5.out M2)
        have K8 := Lib.hid (K6.out.same M2)
        have hsz : w1.heap.size ≤ w2.heap.size := K8.out.size
        clear M2 K5 K6 HI hcx
        generalize (⟨(Lib.itoa x).toArray⟩ : ByteArray) = sx at *
        go_wp2_with (at_builtin; refine wpList_append_own _ rfl (.tmp 29) (.tmp 32) 32 rfl w1.heap.size 9 i0 (.string ⟨#[]⟩) 1 16 Tryz.underlying32 I0.out Z0.out Z1.out Z2.out rfl (by decide) _ _ _ rfl (K7.out.alloc _) ⟨w2.heap.size, 0, none⟩ 1 1 [.string sx] rfl rfl (one_new _ _ _) (fun u hu => (by simp at hu; subst hu; rfl)) (by unfold maxLen; omega) (by omega) (by simp only [World.size_alloc]; omega) ?_; intro v' w3 hown' hgrow _)
        have P1 := Lib.hid (same_append K8.out K7.out hgrow)
        have P2 := Lib.hid hown'
        clear hown' hgrow
        go_roundw
        case rel => exact ⟨k + 1, by omega, by go_num, by rw [E.out]; exact P2.out, P1.out⟩
        case measure => simp [intOf]; omega
      · obtain rfl : k = n := by omega
        have eW : wordsK o.k o.ns k = wordsM o 0 := by rw [wordsM_zero, HNL.out]
        rw [eW] at hown
        have K5 := Lib.hid hown
        have K6 := Lib.hid M
        clear hown M eW W0 M0 HN K1
        go_wp2_with fail
        go_loopw [37, 11, 7] (fun i _ v wr => ∃ m : Nat, m ≤ d ∧ i = .int .i64 m ∧ wr.ownsRow w1.heap.size 9 1 v (1 + k + m) (wordsM o m) ∧ Same w1 wr) (fun i _ _ _ => d - (intOf i).toNat)
        case atStart => exact ⟨0, by omega, rfl, K5.out, K6.out⟩
        case round =>
          obtain ⟨m, hm, rfl, hown, M⟩ := hrel
          clear K5 K6
          by_cases hlt : m < d
          · have hmL : m < o.ts.length := by rw [HDL.out]; exact hlt
            obtain ⟨t, ht⟩ : ∃ t, o.ts[m]? = some t := ⟨_, List.getElem?_eq_getElem hmL⟩
            obtain ⟨b, o1, rfl, hb0, hb, _, hc⟩ := K2.out (by rw [List.length_map]; omega)
            have hcx := (M.cell hb (fun q => q) (o1 + m)).trans (hc m (strV t) (by rw [List.getElem?_map, ht]; rfl))
            unfold strV at hcx
            have htm : t.length ≤ 512 := HTS.out t (List.mem_of_getElem? ht)
            have HI := Lib.hid (runes_any t (by omega) wr)
            have E := Lib.hid (wordsM_succ o m t ht)
            have K5 := Lib.hid hown
            have K6 := Lib.hid M
            clear hown M ht hc hmL htm
            generalize (⟨t.toArray⟩ : ByteArray) = st at *
            go_wp2_with fail
            refine HI.out.mono ?_
            rintro e w2 ⟨rfl, M2⟩
            have K7 := Lib.hid (owns_same K5.out M2)
            have K8 := Lib.hid (K6.out.same M2)
            have hsz : w1.heap.size ≤ w2.heap.size := K8.out.size
            clear M2 K5 K6 HI hcx
            generalize (⟨(runesL t).toArray⟩ : ByteArray) = sx at *
            go_wp2_with (at_builtin; refine wpList_append_own _ rfl (.tmp 41) (.tmp 44) 32 rfl w1.heap.size 9 i0 (.string ⟨#[]⟩) 1 16 Tryz.underlying32 I0.out Z0.out Z1.out Z2.out rfl (by decide) _ _ _ rfl (K7.out.alloc _) ⟨w2.heap.size, 0, none⟩ 1 1 [.string sx] rfl rfl (one_new _ _ _) (fun u hu => (by simp at hu; subst hu; rfl)) (by unfold maxLen; omega) (by omega) (by simp only [World.size_alloc]; omega) ?_; intro v' w3 hown' hgrow _)
            have P1 := Lib.hid (same_append K8.out K7.out hgrow)
            have P2 := Lib.hid hown'
            clear hown' hgrow
            go_roundw
            case rel => exact ⟨m + 1, by omega, by go_num, by rw [E.out]; exact P2.out, P1.out⟩
            case measure => simp [intOf]; omega
          · obtain rfl : m = d := by omega
            have K6 := Lib.hid M
            obtain ⟨g, cap, rfl, hg0, hgc, hrow⟩ := RowV.of_owns hown (by omega)
            have hlen : (lineO o).length = 1 + k + m := by rw [lineO_len, HNL.out, HDL.out]
            have hcells : ∀ (i : Nat) x, (lineO o)[i]? = some x → wr.cell? ⟨g, 0 + i, none⟩ = some (.string x) := by
              intro i x hx
              have hi : i < (lineO o).length := (List.getElem?_eq_some_iff.1 hx).1
              rw [Nat.zero_add]
              refine (hrow.cell i (by omega)).trans ?_
              have eA := wordsM_all o
              rw [HDL.out] at eA
              rw [eA, List.getD_eq_getElem?_getD, List.getElem?_map, hx]; rfl
            have HJ := Lib.hid (Tryz.strings_Join g 0 cap (lineO o) ⟨#[32]⟩ wr hcells hrow.lt (by omega) (by omega) (by show (Lib.join _ [32]).length ≤ _; rw [lineO_join]; exact HTL.out))
            rw [show (⟨#[32]⟩ : ByteArray).data.toList = [32] from rfl, lineO_join, hlen] at HJ
            clear hown M hrow hcells hlen I0 Z0 Z1 Z2 hg0 HTL HNL HDL HTS K2
            generalize textO o = tl at *
            go_wp2_with fail
            refine HJ.out.mono ?_
            rintro e w2 ⟨rfl, M2⟩
            have K7 := Lib.hid (S1.out.same (K6.out.same (Same.of_below M2)))
            clear M2
            go_wp2
            exact HR.out _ _ ⟨rfl, K7.out⟩
set_option maxRecDepth 10000 in
theorem text_bad (o : OW) (hf : o.form) (hfit : o.fits = false) (w : World) :
    Calls Tryz.prog 51 #[ordW o] w fun e w' => e = .returned (.tuple #[.string ⟨#[]⟩, .int .i64 1]) ∧ Same w w' := by
  refine opq fun R HR => ?_
  have HP := Lib.hid (parts_all o hf)
  rw [hfit] at HP
  unfold ordW at HP ⊢
  generalize ordC o = cs at *
  generalize kT o.k = T at *
  generalize (o.ns.map (Value.int .i64)).length = n at *
  go_enter Tryz.func51, Tryz.ntmps51
  go_wp2_with fail
  refine (HP.out _).mono ?_
  rintro e w1 ⟨a1, c1, a2, c2, rfl, r1, r2, M⟩
  have S1 := Lib.hid M
  clear r1 r2 M HP
  go_wp2
  exact HR.out _ _ ⟨rfl, S1.out⟩
set_option maxRecDepth 10000 in
theorem text_nil (w : World) :
    Calls Tryz.prog 51 #[.nilIface] w fun e w' => e = .returned (.tuple #[.string ⟨#[]⟩, .int .i64 1]) ∧ Same w w' := by
  refine opq fun R HR => ?_
  go_enter Tryz.func51, Tryz.ntmps51
  go_wp2_with fail
  refine (parts_nil w).mono ?_
  rintro e w1 ⟨rfl, M⟩
  have S1 := Lib.hid M
  clear M
  go_wp2
  exact HR.out _ _ ⟨rfl, S1.out⟩
end Go.Proofs.YtlcepoagpocadaaGreatDoor
