import Derived.Test.YtdengmlidckkeaaDoorPackU
set_option linter.unusedSimpArgs false
set_option linter.unusedVariables false
namespace Go.Proofs.YtdengmlidckkeaaDoor
open Go Go.RowKit
/-- The bytes of an order's numbers. -/
def numsL (ns : List Int) : List UInt8 := ns.flatMap fun n => leB (IntKind.u64.wrap n) 8
/-- An order's bytes, where it bears no text. -/
def packN (j : Nat) (ns : List Int) : List UInt8 := leB ((j : Int) + 1) 1 ++ numsL ns
theorem numsL_succ (ns : List Int) (k : Nat) (x : Int) (hx : ns[k]? = some x) : numsL (ns.take (k + 1)) = numsL (ns.take k) ++ leB (IntKind.u64.wrap x) 8 := by
  obtain ⟨hk, rfl⟩ := List.getElem?_eq_some_iff.1 hx
  unfold numsL
  rw [List.take_succ_eq_append_getElem hk, List.flatMap_append]; simp
theorem numsL_len (ns : List Int) : (numsL ns).length = 8 * ns.length := by
  induction ns with
  | nil => rfl
  | cons a l ih => unfold numsL at *; rw [List.flatMap_cons, List.length_append, leB_len, ih, List.length_cons]; omega
theorem u64_u (n : Int) : U64 (IntKind.u64.wrap n) := by unfold U64 IntKind.wrap; simp [IntKind.signed, IntKind.bits]; omega
set_option maxRecDepth 10000 in
set_option maxHeartbeats 4000000 in
theorem pput_any (j : Nat) (hj : j < 15) (ns : List Int) (hn : ∀ n ∈ ns, I64 n) (hl : ns.length ≤ 1000) (htl : (textN j ns).length ≤ 140737488355328) (cs : Array Value) (w : World) (hT : TabOK w) (hp : ∀ w, Calls Tryd.prog 42 #[.iface (kT j) (.agg cs)] w (PartsV w (ns.map (Value.int .i64)) []))
    (B b : Nat) (l : List UInt8) (hW : WrF w B b (Lib.byteCells l)) (hlen : l.length ≤ 100000000000000) (hBw : B ≤ w.heap.size) (h4 : 4 < B) :
    Calls Tryd.prog 26 #[.pointer (some ⟨b, 0, none⟩), .iface (kT j) (.agg cs)] w fun e w' => e = .returned (.int .i64 0) ∧ WrF w' B b (Lib.byteCells (l ++ packN j ns)) ∧ Below B w w' := by
  refine opq fun R HR => ?_
  have HTx := Lib.hid (line_any j hj ns hn hl htl cs w hT hp)
  have HNm := Lib.hid (fun w => numbers_of (.iface (kT j) (.agg cs)) _ _ w hp)
  have HDt := Lib.hid (fun w => data_of (.iface (kT j) (.agg cs)) _ _ w hp)
  have HT := Lib.hid hT
  have HW := Lib.hid hW
  have hbw : b < w.heap.size := by rcases hW with q | q <;> exact q.lt
  clear hp hn hT htl hW
  obtain ⟨n, hnl⟩ : ∃ n, ns.length = n := ⟨_, rfl⟩
  have HNL := Lib.hid hnl
  have hn1000 : n ≤ 1000 := by omega
  obtain ⟨T, hTj⟩ : ∃ T, kT j = T := ⟨_, rfl⟩
  have HTj := Lib.hid hTj
  rw [hTj] at HTx HNm HDt ⊢
  clear hnl hl hTj
  generalize (⟨(textN j ns).toArray⟩ : ByteArray) = tx at *
  go_enter Tryd.func26, Tryd.ntmps26
  go_wp2_with fail
  refine HTx.out.mono ?_
  rintro e w1 ⟨rfl, M1⟩
  have K1 := Lib.hid (wr_same HW.out M1)
  have K2 := Lib.hid (M1.to_below hBw)
  have hBw1 : B ≤ w1.heap.size := Nat.le_trans hBw M1.size
  have hb1 : b < w1.heap.size := Nat.lt_of_lt_of_le hbw M1.size
  clear M1 HW HTx hbw
  go_upto_region 4 with fail
  go_cut [] (fun wx => WrF wx B b (Lib.byteCells (l ++ leB ((j : Int) + 1) 1)) ∧ Below B w1 wx)
  case first => as_aux_lemma =>
    have hTT := HTj.out
    have HI := Lib.hid (fun g w h => index_any j hj g w h)
    have h : j = 0 ∨ j = 1 ∨ j = 2 ∨ j = 3 ∨ j = 4 ∨ j = 5 ∨ j = 6 ∨ j = 7 ∨ j = 8 ∨ j = 9 ∨ j = 10 ∨ j = 11 ∨ j = 12 ∨ j = 13 ∨ j = 14 := by omega
    clear HNm HDt HT HR HNL
    rcases h with rfl | rfl | rfl | rfl | rfl | rfl | rfl | rfl | rfl | rfl | rfl | rfl | rfl | rfl | rfl
    all_goals
      obtain rfl := hTT
      go_wp2_with (first
        | (go_at_call 53; refine (words_any _).mono ?_; rintro e w2 ⟨g, rfl, hBl, M2⟩; have A2 := Lib.hid hBl; have A3 := Lib.hid M2; clear hBl M2)
        | (go_at_call 52; refine (HI.out g _ (A2.out.alloc _)).mono ?_; rintro e w3 ⟨rfl, rfl⟩)
        | (go_at_call 25; refine Calls.mono (put_any B b l _ 1 1 (by decide) _ (wr_same K1.out (A3.out.alloc _)) ?_ (by omega) (Nat.le_trans hBw1 (A3.out.alloc _).size)) ?_; (unfold U64; omega); rintro e w4 ⟨rfl, hW4, hB4, _⟩; have A4 := Lib.hid hW4; have A5 := Lib.hid ((Same.to_below (A3.out.alloc _) hBw1).trans hB4); clear hW4 hB4)
        | go_in)
      go_meet
      exact ⟨A4.out, A5.out⟩
  case rest =>
    obtain ⟨hWc, hBc⟩ := hcut
    have K3 := Lib.hid hWc
    have K4 := Lib.hid (K2.out.trans hBc)
    have hBwc : B ≤ wc.heap.size := Nat.le_trans hBw1 hBc.size
    have hbc : b < wc.heap.size := Nat.lt_of_lt_of_le hb1 hBc.size
    clear hWc hBc K1 K2
    go_wp2_with fail
    refine (HNm.out _).mono ?_
    rintro e w2 ⟨a1, c1, rfl, r1, M2⟩
    rw [List.length_map, HNL.out]
    have K5 := Lib.hid (wr_same K3.out M2)
    have K6 := Lib.hid (K4.out.trans (M2.to_below hBwc))
    have K7 := Lib.hid r1
    have hBw2 : B ≤ w2.heap.size := Nat.le_trans hBwc M2.size
    clear M2 r1 K3 K4 HNm
    go_wp2_with fail
    go_loopw [30, 8] (fun i _ wr => ∃ k : Nat, k ≤ n ∧ i = .int .i64 k ∧ WrF wr B b (Lib.byteCells (l ++ leB ((j : Int) + 1) 1 ++ numsL (ns.take k))) ∧ Below B w2 wr ∧ Lib.OthersKept 5 (some b) w2 wr) (fun i _ _ => n - (intOf i).toNat)
    case atStart => exact ⟨0, by omega, rfl, by simpa [numsL] using K5.out, Below.refl _ _, Lib.OthersKept.refl _ _ _⟩
    case round =>
      obtain ⟨k, hk, rfl, hWr, hBr, hOr⟩ := hrel
      have L1 := Lib.hid hWr
      have L2 := Lib.hid hBr
      have L3 := Lib.hid hOr
      have hszr := hBr.size
      clear hWr hBr hOr
      by_cases hlt : k < n
      · have hkL : k < ns.length := by rw [HNL.out]; exact hlt
        obtain ⟨x, hx⟩ : ∃ x, ns[k]? = some x := ⟨_, List.getElem?_eq_getElem hkL⟩
        obtain ⟨b1, o1, rfl, hb0, hb2, ⟨c, T2, fz, hob, hT5⟩, hc⟩ := K7.out (by rw [List.length_map]; omega)
        have hkeep := L3.out b1 _ hob (fun e => by have := Option.some.inj e; omega) (fun c' fz' e => by cases e; exact hT5 rfl)
        have hcx : wr.cell? ⟨b1, o1 + k, none⟩ = some (.int .i64 x) := by
          rw [World.cell?_of_block (hkeep.trans hob.symm)]
          exact hc k (.int .i64 x) (by rw [List.getElem?_map, hx]; rfl)
        have hlt1 : b1 < wr.heap.size := by omega
        have E := Lib.hid (numsL_succ ns k x hx)
        have HPt := Lib.hid (put_any B b (l ++ leB ((j : Int) + 1) 1 ++ numsL (ns.take k)) (IntKind.u64.wrap x) 8 8 (by decide) wr L1.out (u64_u x) (by rw [List.length_append, List.length_append, leB_len, numsL_len, List.length_take]; omega) (by omega))
        clear hx hkL hob hc hkeep
        go_wp2_with fail
        refine HPt.out.mono ?_
        rintro e w3 ⟨rfl, hW3, hB3, hO3⟩
        have P1 := Lib.hid hW3
        have P2 := Lib.hid (L2.out.trans hB3)
        have P3 := Lib.hid (L3.out.trans hO3)
        clear hW3 hB3 hO3 L1 L2 L3 HPt hcx
        go_wp2_with fail
        go_roundw
        case rel => exact ⟨k + 1, by omega, by go_num, by rw [E.out, ← List.append_assoc]; exact P1.out, P2.out, P3.out⟩
        case measure => simp [intOf]; omega
      · obtain rfl : k = n := by omega
        have eL : l ++ leB ((j : Int) + 1) 1 ++ numsL (ns.take k) = l ++ packN j ns := by
          rw [List.take_of_length_le (by rw [HNL.out]; exact Nat.le_refl _), List.append_assoc]; rfl
        rw [eL] at L1
        have P2 := Lib.hid (K6.out.trans L2.out)
        have hBr2 : B ≤ wr.heap.size := by omega
        clear L2 L3 K7 K5 K6 eL
        go_wp2_with fail
        refine (HDt.out _).mono ?_
        rintro e w3 ⟨a2, c2, rfl, r2, M3⟩
        have P3 := Lib.hid (wr_same L1.out M3)
        have P4 := Lib.hid (P2.out.trans (M3.to_below hBr2))
        clear r2 M3 L1 P2 HDt
        go_wp2_with fail
        go_loopw [42] (fun i wz => i = .int .i64 0 ∧ wz = w3) (fun i _ => 0)
        case atStart => exact ⟨rfl, rfl⟩
        case round =>
        obtain ⟨rfl, rfl⟩ := hrel
        go_wp2
        exact HR.out _ _ ⟨rfl, P3.out, P4.out⟩
end Go.Proofs.YtdengmlidckkeaaDoor
