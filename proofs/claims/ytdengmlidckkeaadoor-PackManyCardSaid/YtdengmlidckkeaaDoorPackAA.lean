import Derived.Test.YtdengmlidckkeaaDoorPackZ
set_option linter.unusedSimpArgs false
set_option linter.unusedVariables false
namespace Go.Proofs.YtdengmlidckkeaaDoor
open Go Go.RowKit
/-- All orders' bytes. -/
def allL (L : List PO) : List UInt8 := leB (L.length : Int) 2 ++ L.flatMap packO
theorem flat_take (L : List PO) (k : Nat) (o : PO) (h : L[k]? = some o) : (L.take (k + 1)).flatMap packO = (L.take k).flatMap packO ++ packO o := by
  obtain ⟨hk, rfl⟩ := List.getElem?_eq_some_iff.1 h
  rw [List.take_succ_eq_append_getElem hk, List.flatMap_append]; simp
theorem flat_len (L : List PO) (hL : ∀ o ∈ L, o.ok) : (L.flatMap packO).length ≤ 9 * L.length := by
  induction L with
  | nil => simp
  | cons a l ih =>
    have := (packO_len (hL a (List.mem_cons_self))).2
    have := ih (fun o ho => hL o (List.mem_cons_of_mem _ ho))
    rw [List.flatMap_cons, List.length_append, List.length_cons]; omega
theorem poVal_iface (o : PO) : ∃ T x, poVal o = .iface T x := ⟨_, _, rfl⟩
theorem all_many (b o0 n c : Nat) (w : World) (hn : 400 < n) (hn2 : n ≤ 1000) : Calls Tryd.prog 8 #[.slice (some ⟨b, o0, none⟩) n c] w fun e w' => e = .returned (.tuple #[.string ⟨#[]⟩, .int .i64 1]) ∧ Same w w' := by
  refine opq fun R HR => ?_
  go_enter Tryd.func8, Tryd.ntmps8
  go_wp2
  exact HR.out _ _ ⟨rfl, Mod.refl _ _⟩
set_option maxRecDepth 10000 in
set_option maxHeartbeats 1000000 in
theorem all_po (L : List PO) (hL : ∀ o ∈ L, o.ok) (b o0 n c : Nat) (hn : L.length = n) (hn0 : 0 < n) (hn4 : n ≤ 400) (w : World) (hT : TabOK w) (hb : b < w.heap.size) (hc : ∀ i o, L[i]? = some o → w.cell? ⟨b, o0 + i, none⟩ = some (poVal o)) :
    Calls Tryd.prog 8 #[.slice (some ⟨b, o0, none⟩) n c] w fun e w' => e = .returned (.tuple #[.string ⟨(sealL (allL L)).toArray⟩, .int .i64 0]) ∧ Same w w' := by
  refine opq fun R HR => ?_
  have HL := Lib.hid hL
  have HN := Lib.hid hn
  have HT := Lib.hid hT
  have HC := Lib.hid hc
  have h4 := tab_lt hT
  have hlen9 := flat_len L hL
  have HLen := Lib.hid hlen9
  clear hL hn hT hc hlen9
  have H0 := Lib.hid (wr_new w w.heap.size (Nat.le_refl _))
  have B0 := Lib.hid (Below.alloc (Below.refl w.heap.size w) (Nat.le_refl _) (.cells #[.pointer none, .slice none 0 0] 67))
  have hnn : U64 (n : Int) := by unfold U64; omega
  go_enter Tryd.func8, Tryd.ntmps8
  go_wp2_with fail
  have hW0 : w.heap.size ≤ (w.alloc (.cells #[.pointer none, .slice none 0 0] 67)).heap.size := B0.out.size
  generalize w.alloc _ = W at *
  generalize hZ : w.heap.size = Z at *
  refine (put_any Z Z [] (n : Int) 2 2 (by decide) W H0.out hnn (by simp) hW0).mono ?_
  rintro e w1 ⟨rfl, h1, h2, _⟩
  rw [List.nil_append] at h1
  have K1 := Lib.hid h1
  have K2 := Lib.hid (B0.out.trans h2)
  clear h1 h2 H0 B0
  go_wp2_with fail
  go_loopw [17, 6, 7] (fun i _ _ wr => ∃ k : Nat, k ≤ n ∧ i = .int .i64 k ∧ WrF wr Z Z (Lib.byteCells (leB (n : Int) 2 ++ (L.take k).flatMap packO)) ∧ Below Z w wr) (fun i _ _ _ => n - (intOf i).toNat)
  case atStart => exact ⟨0, by omega, rfl, by simpa using K1.out, K2.out⟩
  case round =>
    obtain ⟨k, hk, rfl, hW, hB⟩ := hrel
    have L1 := Lib.hid hW
    have L2 := Lib.hid hB
    have hszr : Z ≤ wr.heap.size := by rw [← hZ]; exact hB.size
    clear hW hB
    by_cases hlt : k < n
    · have hkL : k < L.length := by rw [HN.out]; exact hlt
      obtain ⟨o, ho⟩ : ∃ o, L[k]? = some o := ⟨_, List.getElem?_eq_getElem hkL⟩
      have hok := HL.out o (List.mem_of_getElem? ho)
      have hcx := (World.cell?_of_block (w := w) (L2.out.block b (by omega))).trans (HC.out k o ho)
      have E := Lib.hid (flat_take L k o ho)
      have hlk : ((L.take k).flatMap packO).length ≤ 9 * k := by
        have := flat_len (L.take k) (fun o ho => HL.out o (List.mem_of_mem_take ho))
        rw [List.length_take] at this; omega
      have HPt := Lib.hid (po_put hok wr (tab_below HT.out L2.out (by omega)) Z Z _ L1.out (by rw [List.length_append, leB_len]; omega) hszr (by omega))
      have hbr : b < wr.heap.size := by omega
      have hk1 : (0 : Int) ≤ (k : Int) := by omega
      have hk2 : (k : Int) < (n : Int) := by omega
      obtain ⟨T, x, hv⟩ := poVal_iface o
      rw [hv] at hcx HPt
      clear ho hkL hok hv hlk
      go_wp2_with fail
      refine HPt.out.mono ?_
      rintro e w2 ⟨rfl, h1, h2⟩
      have P1 := Lib.hid h1
      have P2 := Lib.hid (L2.out.trans h2)
      clear h1 h2 L1 L2 HPt hcx
      go_wp2_with fail
      go_roundw
      case rel => exact ⟨k + 1, by omega, by go_num, by rw [E.out, ← List.append_assoc]; exact P1.out, P2.out⟩
      case measure => simp [intOf]; omega
    · obtain rfl : k = n := by omega
      have eL : leB (k : Int) 2 ++ (L.take k).flatMap packO = allL L := by
        unfold allL; rw [HN.out, List.take_of_length_le (by rw [HN.out]; exact Nat.le_refl _)]
      rw [eL] at L1
      have hne : allL L ≠ [] := by
        intro e; have := congrArg List.length e; unfold allL at this; rw [List.length_append, leB_len] at this; simp at this
      have hal : (allL L).length ≤ 9 * k + 2 := by unfold allL; rw [List.length_append, leB_len]; have := HLen.out; have := HN.out; omega
      generalize allL L = A at *
      clear eL K1 K2
      go_wp2_with fail
      refine (string_any Z Z A wr L1.out hne).mono ?_
      rintro e w2 ⟨rfl, h1⟩
      have P2 := Lib.hid (L2.out.trans h1)
      clear h1 L1 L2
      go_wp2_with fail
      refine (seal_any ⟨A.toArray⟩ w2 (by rw [bytes_size]; omega)).mono ?_
      rintro e w3 ⟨rfl, M3⟩
      have P3 := Lib.hid (Same.of_below (by rw [hZ]; exact P2.out) |>.same M3)
      clear M3 P2
      go_wp2
      exact HR.out _ _ ⟨rfl, P3.out⟩
end Go.Proofs.YtdengmlidckkeaaDoor
