import Derived.Test.YtdengmlidckkeaaDoorPackAA
set_option linter.unusedSimpArgs false
set_option linter.unusedVariables false
namespace Go.Proofs.YtdengmlidckkeaaDoor
open Go Go.RowKit
theorem info41 : (Tryd.prog.info? 41).map (fun i => (i.zero, i.size, i.bytes)) = some (some .nilIface, 1, 16) := by kernel_rfl
theorem owns_mod {w w' : World} {S : Nat → Prop} {base size n : Nat} {e : TypeId} {v : Value} {xs : List Value} (h : w.ownsRow base e size v n xs) (M : Mod S w w') (hS : ∀ i, S i → i < base) : w'.ownsRow base e size v n xs := by
  obtain ⟨hl, h0 | ⟨g, cap, cur, hv, hb, hh, r⟩⟩ := h
  · exact ⟨hl, .inl h0⟩
  · have hlt : g < w.heap.size := by
      rcases Nat.lt_or_ge g w.heap.size with q | q
      · exact q
      · rw [Array.getElem?_eq_none q] at hh; cases hh
    exact ⟨hl, .inr ⟨g, cap, cur, hv, hb, (M.block g hlt (fun q => by have := hS g q; omega)).trans hh, r⟩⟩
theorem take_vals (L : List PO) (k : Nat) (o : PO) (h : L[k]? = some o) : (L.take (k + 1)).map poVal = (L.take k).map poVal ++ [poVal o] := by
  obtain ⟨hk, rfl⟩ := List.getElem?_eq_some_iff.1 h
  rw [List.take_succ_eq_append_getElem hk, List.map_append]; rfl
theorem drop_flat (L : List PO) (k : Nat) (o : PO) (h : L[k]? = some o) : (L.drop k).flatMap packO = packO o ++ (L.drop (k + 1)).flatMap packO := by
  obtain ⟨hk, rfl⟩ := List.getElem?_eq_some_iff.1 h
  rw [List.drop_eq_getElem_cons hk, List.flatMap_cons]
theorem leV_two (n : Nat) (h : n ≤ 400) : leV (leB (n : Int) 2) = n := by
  rw [leV_leB _ (by omega)]
  have : (256 : Int) ^ 2 = 65536 := by decide
  rw [this]; omega
/-- A list of orders in memory. -/
def ListAt (w : World) (a : Option Addr) (L : List PO) : Prop := 0 < L.length → ∃ b o, a = some ⟨b, o, none⟩ ∧ b < w.heap.size ∧ ∀ i p, L[i]? = some p → w.cell? ⟨b, o + i, none⟩ = some (poVal p)
set_option maxRecDepth 10000 in
set_option maxHeartbeats 4000000 in
theorem parse_po (L : List PO) (hL : ∀ o ∈ L, o.ok) (n : Nat) (hn : L.length = n) (hn4 : n ≤ 400) (w : World) :
    Calls Tryd.prog 9 #[.string ⟨(sealL (allL L)).toArray⟩] w fun e w' => ∃ a c, e = .returned (.tuple #[.slice a n c, .int .i64 0]) ∧ ListAt w' a L ∧ Same w w' := by
  refine opq fun Rr HR => ?_
  have HL := Lib.hid hL
  have HN := Lib.hid hn
  have HLen := Lib.hid (flat_len L hL)
  have hal : (allL L).length ≤ 9 * n + 2 := by unfold allL; rw [List.length_append, leB_len]; have := HLen.out; omega
  have hal2 : 2 ≤ (allL L).length := by unfold allL; rw [List.length_append, leB_len]; omega
  have HO := Lib.hid (open_any (sealL (allL L)) w (by rw [sealL_len]; omega))
  rw [openL_sealL] at HO
  dsimp only at HO
  have HA := Lib.hid (show allL L = leB (n : Int) 2 ++ L.flatMap packO by unfold allL; rw [hn])
  have hbs := bytes_size (allL L)
  generalize sealL (allL L) = S at *
  generalize allL L = A at *
  clear hL hn
  go_enter Tryd.func9, Tryd.ntmps9
  go_wp2_with fail
  refine HO.out.mono ?_
  rintro e w1 ⟨rfl, M1⟩
  have K1 := Lib.hid M1
  clear M1 HO
  go_wp2_with fail
  refine (of_any A _).mono ?_
  rintro e w2 ⟨rfl, hB, M2⟩
  have K2 := Lib.hid (K1.out.same M2)
  have hRl : w1.heap.size < w2.heap.size := hB.lt
  have KB := Lib.hid hB
  clear M2 hB
  go_wp2_with fail
  have ES := Lib.hid (show EyeS (w2.alloc (.cells #[rptr w1.heap.size, .int .i64 0, .bool false] 78)) w2.heap.size w1.heap.size A false 0 false from ⟨Blk.new w2 _ _, KB.out.alloc _, by omega⟩)
  have K3 := Lib.hid (K2.out.alloc (.cells #[rptr w1.heap.size, .int .i64 0, .bool false] 78))
  have hEl := ES.out.eye.lt
  have hRw : w.heap.size ≤ w1.heap.size := K1.out.size
  have hEw : w.heap.size ≤ w2.heap.size := K2.out.size
  generalize w2.alloc _ = W at *
  generalize w2.heap.size = E at *
  generalize w1.heap.size = R at *
  have HG := Lib.hid (get_any R A false 2 2 (by decide) W ES.out.rd (by omega))
  rw [HA.out, takeL_app _ _ _ 2 (leB_len _ _).symm] at HG
  dsimp only at HG
  rw [leV_two n hn4] at HG
  refine HG.out.mono ?_
  rintro e w3 ⟨rfl, hB3, hM3⟩
  have E3 := Lib.hid (show EyeS w3 E R (L.flatMap packO) false 0 false from ⟨ES.out.eye.mod hM3 ES.out.ne, hB3, ES.out.ne⟩)
  have K4 := Lib.hid (K3.out.then_ hM3 (fun i hi (e : i = R) => by omega))
  have hE3 : E < w3.heap.size := E3.out.eye.lt
  have hR3 : R < w3.heap.size := E3.out.rd.lt
  have hi64 := i64_same (n : Int) (by omega)
  obtain ⟨i0, hi, hz0, hz1, hz2⟩ := info_parts info41
  have I0 := Lib.hid hi
  have Z0 := Lib.hid hz0
  have Z1 := Lib.hid hz1
  have Z2 := Lib.hid hz2
  clear hi hz0 hz1 hz2 hB3 hM3 HG ES K3 K2 KB K1 hEl hRl HA hbs hal2
  go_wp2_with fail
  go_loopw [34, 8] (fun i v wr => ∃ (k : Nat) (u : Int), k ≤ n ∧ i = .int .i64 k ∧ wr.ownsRow w3.heap.size 41 1 v k ((L.take k).map poVal) ∧ EyeS wr E R ((L.drop k).flatMap packO) false u false ∧ (0 ≤ u ∧ u ≤ 10 * k) ∧ Mod (fun i => i = E ∨ i = R) w3 wr) (fun i _ _ => n - (intOf i).toNat)
  case atStart => exact ⟨0, 0, by omega, rfl, World.ownsRow_nil _ _ _ _, E3.out, by omega, Mod.refl _ _⟩
  case round =>
    obtain ⟨k, u, hk, rfl, hown, hes, hu, hM⟩ := hrel
    have L1 := Lib.hid hown
    have L2 := Lib.hid hes
    have L3 := Lib.hid hM
    have hszr := hM.size
    clear hown hes hM
    by_cases hlt : k < n
    · have hkL : k < L.length := by rw [HN.out]; exact hlt
      obtain ⟨o, ho⟩ : ∃ o, L[k]? = some o := ⟨_, List.getElem?_eq_getElem hkL⟩
      have hok := HL.out o (List.mem_of_getElem? ho)
      have hd := drop_flat L k o ho
      have hpl := packO_len hok
      have hdl : ((L.drop (k + 1)).flatMap packO).length ≤ 9 * n := by
        have := flat_len (L.drop (k + 1)) (fun o ho => HL.out o (List.mem_of_mem_drop ho))
        have hN := HN.out
        rw [List.length_drop] at this; omega
      have HOr := Lib.hid (po_order hok E R ((L.drop (k + 1)).flatMap packO) false u false wr (by rw [← hd]; exact L2.out) (by omega) (by omega))
      have ET := Lib.hid (take_vals L k o ho)
      obtain ⟨T, x, hv⟩ := poVal_iface o
      rw [hv] at HOr ET
      clear ho hkL hok hv hd L2
      go_wp2_with fail
      refine HOr.out.mono ?_
      rintro e w4 ⟨rfl, h1, h2⟩
      have P1 := Lib.hid h1
      have P2 := Lib.hid (L3.out.trans h2)
      have P3 := Lib.hid (owns_mod L1.out h2 (fun i q => by rcases q with q | q <;> omega))
      have hsz4 : w3.heap.size ≤ w4.heap.size := P2.out.size
      clear h1 h2 L1 L3 HOr
      go_wp2_with (at_builtin; refine wpList_append_own _ rfl (.tmp 36) (.tmp 39) 24 rfl w3.heap.size 41 i0 .nilIface 1 16 Tryd.underlying24 I0.out Z0.out Z1.out Z2.out rfl (by decide) _ _ _ rfl (P3.out.alloc _) ⟨w4.heap.size, 0, none⟩ 1 1 [.iface T x] rfl rfl (one_new _ _ _) (fun u hu => (by simp at hu; subst hu; rfl)) (by unfold maxLen; omega) (by omega) (by simp only [World.size_alloc]; omega) ?_; intro v' w5 hown' hgrow _)
      have Q1 := Lib.hid (same_append P2.out P3.out hgrow)
      have Q2 := Lib.hid hown'
      have Q3 := Lib.hid (show EyeS w5 E R ((L.drop (k + 1)).flatMap packO) false (u + (packO o).length) false from ⟨blk_append P1.out.eye hE3 P3.out hgrow, blk_append P1.out.rd hR3 P3.out hgrow, P1.out.ne⟩)
      clear hown' hgrow P1 P2 P3
      go_roundw
      case rel => exact ⟨k + 1, _, by omega, by go_num, by rw [ET.out]; exact Q2.out, Q3.out, by omega, Q1.out⟩
      case measure => simp [intOf]; omega
    · obtain rfl : k = n := by omega
      have ed : (L.drop k).flatMap packO = [] := by rw [List.drop_of_length_le (by rw [HN.out]; exact Nat.le_refl _)]; rfl
      have et : L.take k = L := List.take_of_length_le (by rw [HN.out]; exact Nat.le_refl _)
      rw [ed] at L2
      rw [et] at L1
      have HE := Lib.hid (end_any R [] false wr L2.out.rd)
      have hc := L2.out.eye.cell
      have hl := L2.out.eye.lt
      obtain ⟨va, vc, rfl⟩ := owns_slice L1.out
      clear ed et E3
      go_wp2_with fail
      refine HE.out.mono ?_
      rintro e w4 ⟨rfl, M4⟩
      have P1 := Lib.hid ((K4.out.then_ L3.out (fun i hi q => by rcases q with q | q <;> omega)).same M4)
      have P2 := Lib.hid (owns_same L1.out M4)
      clear M4 L1 L2 L3 hc hl HE
      go_wp2
      refine HR.out _ _ ⟨_, _, rfl, fun q => ?_, P1.out⟩
      obtain ⟨g, cap, hv, hg0, hgc, hrow⟩ := RowV.of_owns P2.out (by rw [← HN.out]; exact q)
      cases hv
      refine ⟨g, 0, rfl, hrow.lt, fun i p hp => ?_⟩
      have hi : i < L.length := (List.getElem?_eq_some_iff.1 hp).1
      rw [Nat.zero_add]
      refine (hrow.cell i (by have := HN.out; omega)).trans ?_
      rw [List.getD_eq_getElem?_getD, List.getElem?_map, hp]; rfl
end Go.Proofs.YtdengmlidckkeaaDoor
