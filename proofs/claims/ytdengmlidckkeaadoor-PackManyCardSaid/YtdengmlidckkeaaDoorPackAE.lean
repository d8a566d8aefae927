import Derived.Test.YtdengmlidckkeaaDoorPackAD
set_option linter.unusedSimpArgs false
set_option linter.unusedVariables false
namespace Go.Proofs.YtdengmlidckkeaaDoor
open Go Go.RowKit
def tickL (q : Nat) : List PO := (List.range q).map fun (i : Nat) => (⟨10, [(i : Int)]⟩ : PO)
theorem tickL_succ (q : Nat) : (tickL (q + 1)).map poVal = (tickL q).map poVal ++ [.iface 26 (.agg #[.int .i64 (q : Int)])] := by
  simp [tickL, List.range_succ]; rfl
theorem tickL_len (q : Nat) : (tickL q).length = q := by simp [tickL]
theorem tickL_ok (q : Nat) (hq : q ≤ 1000) : ∀ o ∈ tickL q, o.ok := by
  intro o ho
  unfold tickL at ho
  obtain ⟨i, hi, rfl⟩ := List.mem_map.1 ho
  have := List.mem_range.1 hi
  exact .inr ⟨.inr (.inr rfl), (i : Int), by unfold I64; omega, rfl⟩
theorem tick_flat (q : Nat) : ((tickL q).flatMap packO).length = 9 * q := by
  induction q with
  | zero => rfl
  | succ q ih =>
    have : tickL (q + 1) = tickL q ++ [⟨10, [(q : Int)]⟩] := by simp [tickL, List.range_succ]
    rw [this, List.flatMap_append, List.length_append, ih]
    unfold packO packN numsL
    simp [leB_len]
    omega
theorem tick_all (q : Nat) : (sealL (allL (tickL q))).length = 9 * q + 6 := by
  rw [sealL_len]; unfold allL; rw [List.length_append, leB_len, tick_flat]; omega
theorem m_du64 (n : Int) : 0 ≤ IntKind.u64.wrap n ∧ IntKind.u64.wrap n ≤ 18446744073709551615 := u64_u n
theorem m_dmod (n k : Int) (hk : 0 < k) : 0 ≤ (IntKind.u64.wrap n).tmod k ∧ (IntKind.u64.wrap n).tmod k < k :=
  ⟨Int.tmod_nonneg _ (m_du64 n).1, Int.tmod_lt_of_pos _ hk⟩
set_option maxRecDepth 10000 in
set_option maxHeartbeats 1000000 in
theorem packMany_walk (n : Int) (w : World) (hT : TabOK w) : Calls Tryd.prog 3 #[.int .i64 n] w fun e w' => e = .returned (.bool true) ∧ Below w.heap.size w w' := by
  refine opq fun R HR => ?_
  have HA := Lib.hid (awake_any w hT)
  have HT := Lib.hid hT
  obtain ⟨hn1, hn2⟩ := m_dmod n 10 (by omega)
  obtain ⟨i0, hi, hz0, hz1, hz2⟩ := info_parts info41
  have I0 := Lib.hid hi
  have Z0 := Lib.hid hz0
  have Z1 := Lib.hid hz1
  have Z2 := Lib.hid hz2
  clear hi hz0 hz1 hz2 hT
  go_enter Tryd.func3, Tryd.ntmps3
  go_wp2_with fail
  refine HA.out.mono ?_
  rintro e w1 ⟨rfl, M1⟩
  have K1 := Lib.hid M1
  clear M1 HA
  go_wp2_with fail
  generalize (IntKind.u64.wrap n).tmod 10 = k1 at *
  obtain ⟨k, hk⟩ : ∃ k : Nat, 395 + k1 = (k : Int) := ⟨(395 + k1).toNat, by omega⟩
  have hka : 395 ≤ k := by omega
  have hkb : k ≤ 404 := by omega
  rw [hk]
  clear hn1 hn2 hk
  go_loopw [5, 4] (fun i v wr => ∃ q : Nat, q ≤ k ∧ i = .int .i64 q ∧ wr.ownsRow w1.heap.size 41 1 v q ((tickL q).map poVal) ∧ Same w1 wr) (fun i _ _ => k - (intOf i).toNat)
  case atStart => exact ⟨0, by omega, rfl, ⟨rfl, .inr ⟨_, 0, #[], rfl, Nat.le_refl _, heap_new _ _, by omega, by unfold maxLen; omega, rfl, rfl⟩⟩, (Mod.refl _ _).alloc _⟩
  case round =>
    obtain ⟨q, hq, rfl, hown, hM⟩ := hrel
    have L1 := Lib.hid hown
    have L2 := Lib.hid hM
    have hszr := hM.size
    clear hown hM
    by_cases hlt : q < k
    · have ET := Lib.hid (tickL_succ q)
      go_wp2_with (at_builtin; refine wpList_append_own _ rfl (.tmp 23) (.tmp 27) 24 rfl w1.heap.size 41 i0 .nilIface 1 16 Tryd.underlying24 I0.out Z0.out Z1.out Z2.out rfl (by decide) _ _ _ rfl (L1.out.alloc _) ⟨wr.heap.size, 0, none⟩ 1 1 [.iface 26 (.agg #[.int .i64 (q : Int)])] rfl rfl (one_new _ _ _) (fun u hu => (by simp at hu; subst hu; rfl)) (by unfold maxLen; omega) (by omega) (by simp only [World.size_alloc]; omega) ?_; intro v' w5 hown' hgrow _)
      have Q1 := Lib.hid (same_append L2.out L1.out hgrow)
      have Q2 := Lib.hid hown'
      clear hown' hgrow L1 L2
      go_roundw
      case rel => exact ⟨q + 1, by omega, by go_num, by rw [ET.out]; exact Q2.out, Q1.out⟩
      case measure => simp [intOf]; omega
    · obtain rfl : q = k := by omega
      obtain ⟨g, cap, rfl, hg0, hgc, hrow⟩ := RowV.of_owns L1.out (by omega)
      have hc : ∀ i p, (tickL q)[i]? = some p → wr.cell? ⟨g, 0 + i, none⟩ = some (poVal p) := by
        intro i p hp
        have hi : i < (tickL q).length := (List.getElem?_eq_some_iff.1 hp).1
        rw [tickL_len] at hi
        rw [Nat.zero_add]
        refine (hrow.cell i (by omega)).trans ?_
        rw [List.getD_eq_getElem?_getD, List.getElem?_map, hp]; rfl
      have hTr := tab_same HT.out (K1.out.same L2.out)
      have hgl := hrow.lt
      have K2 := Lib.hid (K1.out.same L2.out)
      have HC := Lib.hid hc
      have HTr := Lib.hid hTr
      clear hrow hc hTr L1 L2 K1
      by_cases h4 : 400 < q
      · go_wp2_with fail
        refine (all_many g 0 q cap wr h4 (by omega)).mono ?_
        rintro e w2 ⟨rfl, M2⟩
        have K3 := Lib.hid (K2.out.same M2)
        clear M2 K2
        go_wp2
        exact HR.out _ _ ⟨rfl, (show Same w w2 from K3.out).below⟩
      · have hok := tickL_ok q (by omega)
        have HP := Lib.hid (fun w => parse_po (tickL q) hok q (tickL_len q) (by omega) w)
        have hlen := tick_all q
        have hsz := bytes_size (sealL (allL (tickL q)))
        rw [hlen] at hsz
        have HAl := Lib.hid (all_po (tickL q) hok g 0 q cap (tickL_len q) (by omega) (by omega) wr HTr.out hgl HC.out)
        generalize sealL (allL (tickL q)) = S at *
        clear hok
        go_wp2_with fail
        refine HAl.out.mono ?_
        rintro e w2 ⟨rfl, M2⟩
        have K3 := Lib.hid (K2.out.same M2)
        clear M2 K2 HAl
        go_wp2_with fail
        refine (HP.out _).mono ?_
        rintro e w3 ⟨a, c, rfl, _, M3⟩
        have K4 := Lib.hid (K3.out.same M3)
        clear M3 K3 HP
        have hs : ((9 * q + 6 : Nat) : Int) = 2 + 9 * (q : Int) + 4 := by omega
        go_wp2_with fail
        exact HR.out _ _ ⟨rfl, (show Same w w3 from K4.out).below⟩
end Go.Proofs.YtdengmlidckkeaaDoor
