import Derived.Test.YtdengmlidckkeaaGreatDoorPackU
import Derived.Lib.ItoaLen
import Derived.Test.YtdengmlidckkeaaGreatDoorPackZN
import Derived.Test.YtdengmlidckkeaaGreatDoorOrdP
import Derived.Test.YtdengmlidckkeaaGreatDoorOrdQ
import Derived.Test.YtdengmlidckkeaaGreatDoorOrdZA
import Derived.Test.YtdengmlidckkeaaGreatDoorOrdZ
set_option linter.unusedSimpArgs false
set_option linter.unusedVariables false
namespace Go.Proofs.YtdengmlidckkeaaGreatDoor
open Go Go.RowKit
/-- The bytes of an order's numbers. -/
def numsL (ns : List Int) : List UInt8 := ns.flatMap fun n => leB (IntKind.u64.wrap n) 8
/-- An order's bytes, where it bears no text. -/
def packN (j : Nat) (ns : List Int) : List UInt8 := leB ((j : Int) + 1) 1 ++ numsL ns
theorem numsL_succ (ns : List Int) (k : Nat) (x : Int) (hx : ns[k]? = some x) : numsL (ns.take (k + 1)) = numsL (ns.take k) ++ leB (IntKind.u64.wrap x) 8 := by
  obtain ⟨hk, rfl⟩ := List.getElem?_eq_some_iff.1 hx
  unfold numsL
  rw [List.take_succ_eq_append_getElem hk, List.flatMap_append]; simp
theorem numsL_len (ns : List Int) : (numsL ns).length = 8 * ns.length := by
  induction ns with
  | nil => rfl
  | cons a l ih => unfold numsL at *; rw [List.flatMap_cons, List.length_append, leB_len, ih, List.length_cons]; omega
theorem u64_u (n : Int) : U64 (IntKind.u64.wrap n) := by unfold U64 IntKind.wrap; simp [IntKind.signed, IntKind.bits]; omega
set_option maxRecDepth 10000 in
set_option maxHeartbeats 4000000 in
theorem pput_any (j : Nat) (hj : j < 15) (ns : List Int) (hn : ∀ n ∈ ns, I64 n) (hl : ns.length ≤ 1000) (htl : (textN j ns).length ≤ 140737488355328) (cs : Array Value) (w : World) (hT : TabOK w) (hp : ∀ w, Calls Tryz.prog 37 #[.iface (kT j) (.agg cs)] w (PartsV w (ns.map (Value.int .i64)) []))
    (B b : Nat) (l : List UInt8) (hW : WrF w B b (Lib.byteCells l)) (hlen : l.length ≤ 100000000000000) (hBw : B ≤ w.heap.size) (h4 : 4 < B) :
    Calls Tryz.prog 48 #[.pointer (some ⟨b, 0, none⟩), .iface (kT j) (.agg cs)] w fun e w' => e = .returned (.int .i64 0) ∧ WrF w' B b (Lib.byteCells (l ++ packN j ns)) ∧ Below B w w' := by
  refine opq fun R HR => ?_
  have HTx := Lib.hid (line_any j hj ns hn hl htl cs w hT hp)
  have HNm := Lib.hid (fun w => numbers_of (.iface (kT j) (.agg cs)) _ _ w hp)
  have HDt := Lib.hid (fun w => data_of (.iface (kT j) (.agg cs)) _ _ w hp)
  have HT := Lib.hid hT
  have HW := Lib.hid hW
  have hbw : b < w.heap.size := by rcases hW with q | q <;> exact q.lt
  clear hp hn hT htl hW
  obtain ⟨n, hnl⟩ : ∃ n, ns.length = n := ⟨_, rfl⟩
  have HNL := Lib.hid hnl
  have hn1000 : n ≤ 1000 := by omega
  obtain ⟨T, hTj⟩ : ∃ T, kT j = T := ⟨_, rfl⟩
  have HTj := Lib.hid hTj
  rw [hTj] at HTx HNm HDt ⊢
  clear hnl hl hTj
  generalize (⟨(textN j ns).toArray⟩ : ByteArray) = tx at *
  go_enter Tryz.func48, Tryz.ntmps48
  go_wp2_with fail
  refine HTx.out.mono ?_
  rintro e w1 ⟨rfl, M1⟩
  have K1 := Lib.hid (wr_same HW.out M1)
  have K2 := Lib.hid (M1.to_below hBw)
  have hBw1 : B ≤ w1.heap.size := Nat.le_trans hBw M1.size
  have hb1 : b < w1.heap.size := Nat.lt_of_lt_of_le hbw M1.size
  clear M1 HW HTx hbw
  go_upto_region 4 with fail
  go_cut [] (fun wx => WrF wx B b (Lib.byteCells (l ++ leB ((j : Int) + 1) 1)) ∧ Below B w1 wx)
  case first => as_aux_lemma =>
    have hTT := HTj.out
    have HI := Lib.hid (fun g w h => index_any j hj g w h)
    have h : j = 0 ∨ j = 1 ∨ j = 2 ∨ j = 3 ∨ j = 4 ∨ j = 5 ∨ j = 6 ∨ j = 7 ∨ j = 8 ∨ j = 9 ∨ j = 10 ∨ j = 11 ∨ j = 12 ∨ j = 13 ∨ j = 14 := by omega
    clear HNm HDt HT HR HNL
    rcases h with rfl | rfl | rfl | rfl | rfl | rfl | rfl | rfl | rfl | rfl | rfl | rfl | rfl | rfl | rfl
    all_goals
      obtain rfl := hTT
      go_wp2_with (first
        | (go_at_call 76; refine (words_any _).mono ?_; rintro e w2 ⟨g, rfl, hBl, M2⟩; have A2 := Lib.hid hBl; have A3 := Lib.hid M2; clear hBl M2)
        | (go_at_call 75; refine (HI.out g _ (A2.out.alloc _)).mono ?_; rintro e w3 ⟨rfl, rfl⟩)
        | (go_at_call 50; refine Calls.mono (put_any B b l _ 1 1 (by decide) _ (wr_same K1.out (A3.out.alloc _)) ?_ (by omega) (Nat.le_trans hBw1 (A3.out.alloc _).size)) ?_; (unfold U64; omega); rintro e w4 ⟨rfl, hW4, hB4, _⟩; have A4 := Lib.hid hW4; have A5 := Lib.hid ((Same.to_below (A3.out.alloc _) hBw1).trans hB4); clear hW4 hB4)
        | go_in)
      go_meet
      exact ⟨A4.out, A5.out⟩
  case rest =>
    obtain ⟨hWc, hBc⟩ := hcut
    have K3 := Lib.hid hWc
    have K4 := Lib.hid (K2.out.trans hBc)
    have hBwc : B ≤ wc.heap.size := Nat.le_trans hBw1 hBc.size
    have hbc : b < wc.heap.size := Nat.lt_of_lt_of_le hb1 hBc.size
    clear hWc hBc K1 K2
    go_wp2_with fail
    refine (HNm.out _).mono ?_
    rintro e w2 ⟨a1, c1, rfl, r1, M2⟩
    rw [List.length_map, HNL.out]
    have K5 := Lib.hid (wr_same K3.out M2)
    have K6 := Lib.hid (K4.out.trans (M2.to_below hBwc))
    have K7 := Lib.hid r1
    have hBw2 : B ≤ w2.heap.size := Nat.le_trans hBwc M2.size
    clear M2 r1 K3 K4 HNm
    go_wp2_with fail
    go_loopw [30, 8] (fun i _ wr => ∃ k : Nat, k ≤ n ∧ i = .int .i64 k ∧ WrF wr B b (Lib.byteCells (l ++ leB ((j : Int) + 1) 1 ++ numsL (ns.take k))) ∧ Below B w2 wr ∧ Lib.OthersKept 5 (some b) w2 wr) (fun i _ _ => n - (intOf i).toNat)
    case atStart => exact ⟨0, by omega, rfl, by simpa [numsL] using K5.out, Below.refl _ _, Lib.OthersKept.refl _ _ _⟩
    case round =>
      obtain ⟨k, hk, rfl, hWr, hBr, hOr⟩ := hrel
      have L1 := Lib.hid hWr
      have L2 := Lib.hid hBr
      have L3 := Lib.hid hOr
      have hszr := hBr.size
      clear hWr hBr hOr
      by_cases hlt : k < n
      · have hkL : k < ns.length := by rw [HNL.out]; exact hlt
        obtain ⟨x, hx⟩ : ∃ x, ns[k]? = some x := ⟨_, List.getElem?_eq_getElem hkL⟩
        obtain ⟨b1, o1, rfl, hb0, hb2, ⟨c, T2, fz, hob, hT5⟩, hc⟩ := K7.out (by rw [List.length_map]; omega)
        have hkeep := L3.out b1 _ hob (fun e => by have := Option.some.inj e; omega) (fun c' fz' e => by cases e; exact hT5 rfl)
        have hcx : wr.cell? ⟨b1, o1 + k, none⟩ = some (.int .i64 x) := by
          rw [World.cell?_of_block (hkeep.trans hob.symm)]
          exact hc k (.int .i64 x) (by rw [List.getElem?_map, hx]; rfl)
        have hlt1 : b1 < wr.heap.size := by omega
        have E := Lib.hid (numsL_succ ns k x hx)
        have HPt := Lib.hid (put_any B b (l ++ leB ((j : Int) + 1) 1 ++ numsL (ns.take k)) (IntKind.u64.wrap x) 8 8 (by decide) wr L1.out (u64_u x) (by rw [List.length_append, List.length_append, leB_len, numsL_len, List.length_take]; omega) (by omega))
        clear hx hkL hob hc hkeep
        go_wp2_with fail
        refine HPt.out.mono ?_
        rintro e w3 ⟨rfl, hW3, hB3, hO3⟩
        have P1 := Lib.hid hW3
        have P2 := Lib.hid (L2.out.trans hB3)
        have P3 := Lib.hid (L3.out.trans hO3)
        clear hW3 hB3 hO3 L1 L2 L3 HPt hcx
        go_wp2_with fail
        go_roundw
        case rel => exact ⟨k + 1, by omega, by go_num, by rw [E.out, ← List.append_assoc]; exact P1.out, P2.out, P3.out⟩
        case measure => simp [intOf]; omega
      · obtain rfl : k = n := by omega
        have eL : l ++ leB ((j : Int) + 1) 1 ++ numsL (ns.take k) = l ++ packN j ns := by
          rw [List.take_of_length_le (by rw [HNL.out]; exact Nat.le_refl _), List.append_assoc]; rfl
        rw [eL] at L1
        have P2 := Lib.hid (K6.out.trans L2.out)
        have hBr2 : B ≤ wr.heap.size := by omega
        clear L2 L3 K7 K5 K6 eL
        go_wp2_with fail
        refine (HDt.out _).mono ?_
        rintro e w3 ⟨a2, c2, rfl, r2, M3⟩
        have P3 := Lib.hid (wr_same L1.out M3)
        have P4 := Lib.hid (P2.out.trans (M3.to_below hBr2))
        clear r2 M3 L1 P2 HDt
        go_wp2_with fail
        go_loopw [42] (fun i wz => i = .int .i64 0 ∧ wz = w3) (fun i _ => 0)
        case atStart => exact ⟨rfl, rfl⟩
        case round =>
        obtain ⟨rfl, rfl⟩ := hrel
        go_wp2
        exact HR.out _ _ ⟨rfl, P3.out, P4.out⟩
end Go.Proofs.YtdengmlidckkeaaGreatDoor
namespace Go.Proofs.YtdengmlidckkeaaGreatDoor
open Go Go.RowKit
/-- An eye: its reader, what it has used, whether something was wrong. -/
structure EyeS (w : World) (E R : Nat) (l : List UInt8) (sh : Bool) (u : Int) (bad : Bool) : Prop where
  eye : Blk w E #[rptr R, .int .i64 u, .bool bad]
  rd : Blk w R (rcells l sh)
  ne : E ≠ R
theorem EyeS.same {w w' : World} {E R : Nat} {l : List UInt8} {sh : Bool} {u : Int} {bad : Bool} (h : EyeS w E R l sh u bad) (M : Same w w') : EyeS w' E R l sh u bad := ⟨h.eye.mod M (fun q => q), h.rd.mod M (fun q => q), h.ne⟩
theorem takeL_app (a r : List UInt8) (sh : Bool) (n : Nat) (hn : n = a.length) : takeL (a ++ r) sh n = (a, r, sh) := by
  unfold takeL
  rw [if_pos (by rw [List.length_append]; omega), List.take_left' hn.symm, List.drop_left' hn.symm]
theorem back_i64 (n : Int) (h : I64 n) : IntKind.i64.wrap (leV (leB (IntKind.u64.wrap n) 8)) = n := by
  have hu := u64_u n
  rw [leV_leB _ hu.1]
  have : (256 : Int) ^ 8 = 18446744073709551616 := by decide
  rw [this]
  unfold U64 at hu
  unfold I64 at h
  revert hu
  unfold IntKind.wrap; simp [IntKind.signed, IntKind.bits]; intro h1 h2
  omega
theorem i64_same (z : Int) (h : 0 ≤ z ∧ z ≤ 1000) : IntKind.i64.wrap z = z := by
  unfold IntKind.wrap; simp [IntKind.signed, IntKind.bits]; omega
set_option maxRecDepth 10000 in
theorem num_any (E R : Nat) (n : Int) (hn : I64 n) (l : List UInt8) (sh : Bool) (u : Int) (bad : Bool) (w : World) (h : EyeS w E R (leB (IntKind.u64.wrap n) 8 ++ l) sh u bad) (hl : l.length ≤ 1000000000000) (hu : 0 ≤ u ∧ u ≤ 1000000000000) :
    Calls Tryz.prog 82 #[rptr E] w fun e w' => e = .returned (.int .i64 n) ∧ EyeS w' E R l sh (u + 8) bad ∧ Mod (fun i => i = E ∨ i = R) w w' := by
  refine opq fun Rr HR => ?_
  have hc := h.eye.cell
  have hf := h.eye.free
  have hlt := h.eye.lt
  have H := Lib.hid h
  have hE : IntKind.i64.wrap (u + 8) = u + 8 := IntWalk.i64_in _ (by omega)
  clear h
  go_enter Tryz.func82, Tryz.ntmps82
  go_wp2_with fail
  have H2 := Lib.hid (show EyeS (w.setCell ⟨E, 1, none⟩ (.int .i64 (u + 8))) E R (leB (IntKind.u64.wrap n) 8 ++ l) sh (u + 8) bad from ⟨H.out.eye.set 1 _, H.out.rd.set_far (p := ⟨E, 1, none⟩) H.out.ne _, H.out.ne⟩)
  have M0 := Lib.hid ((Mod.refl (fun i => i = E ∨ i = R) w).setCell (p := ⟨E, 1, none⟩) (fun _ => .inl rfl) (.int .i64 (u + 8)))
  have HG := Lib.hid (get_any R (leB (IntKind.u64.wrap n) 8 ++ l) sh 8 8 (by decide) _ H2.out.rd (by rw [List.length_append, leB_len]; omega))
  rw [takeL_app _ l sh 8 (leB_len _ _).symm] at HG
  dsimp only at HG
  have hz := back_i64 n hn
  generalize leV (leB (IntKind.u64.wrap n) 8) = z at *
  refine HG.out.mono ?_
  rintro e w1 ⟨rfl, hB, hM⟩
  have K1 := Lib.hid (show EyeS w1 E R l sh (u + 8) bad from ⟨H2.out.eye.mod hM H2.out.ne, hB, H2.out.ne⟩)
  have K2 := Lib.hid (M0.out.trans (hM.mono (fun i _ e => .inr e)))
  clear hB hM H2 M0 HG hc hf
  go_wp2_with fail
  exact HR.out _ _ ⟨rfl, K1.out, K2.out⟩
end Go.Proofs.YtdengmlidckkeaaGreatDoor
namespace Go.Proofs.YtdengmlidckkeaaGreatDoor
open Go Go.RowKit
set_option maxRecDepth 10000 in
theorem volume1 (E R : Nat) (n : Int) (hn : I64 n) (l : List UInt8) (sh : Bool) (u : Int) (bad : Bool) (w : World) (h : EyeS w E R (leB (IntKind.u64.wrap n) 8 ++ l) sh u bad) (hl : l.length ≤ 1000000000000) (hu : 0 ≤ u ∧ u ≤ 1000000000000) :
    Calls Tryz.prog 84 #[rptr E, .string ⟨#[100, 101, 108, 101, 116, 101]⟩] w fun e w' => e = .returned (.iface 79 (.agg #[.int .i64 n])) ∧ EyeS w' E R l sh (u + 8) bad ∧ Mod (fun i => i = E ∨ i = R) w w' := by
  refine opq fun Rr HR => ?_
  have HN := Lib.hid (num_any E R n hn l sh u bad w h hl hu)
  clear h
  go_enter Tryz.func84, Tryz.ntmps84
  go_wp2_with fail
  refine HN.out.mono ?_
  rintro e w1 ⟨rfl, h1, h2⟩
  have K1 := Lib.hid h1
  have K2 := Lib.hid h2
  clear h1 h2 HN
  go_wp2_with fail
  exact HR.out _ _ ⟨rfl, K1.out, K2.out⟩
set_option maxRecDepth 10000 in
theorem volume4 (E R : Nat) (n : Int) (hn : I64 n) (l : List UInt8) (sh : Bool) (u : Int) (bad : Bool) (w : World) (h : EyeS w E R (leB (IntKind.u64.wrap n) 8 ++ l) sh u bad) (hl : l.length ≤ 1000000000000) (hu : 0 ≤ u ∧ u ≤ 1000000000000) :
    Calls Tryz.prog 84 #[rptr E, .string ⟨#[112, 105, 110]⟩] w fun e w' => e = .returned (.iface 83 (.agg #[.int .i64 n])) ∧ EyeS w' E R l sh (u + 8) bad ∧ Mod (fun i => i = E ∨ i = R) w w' := by
  refine opq fun Rr HR => ?_
  have HN := Lib.hid (num_any E R n hn l sh u bad w h hl hu)
  clear h
  go_enter Tryz.func84, Tryz.ntmps84
  go_wp2_with fail
  refine HN.out.mono ?_
  rintro e w1 ⟨rfl, h1, h2⟩
  have K1 := Lib.hid h1
  have K2 := Lib.hid h2
  clear h1 h2 HN
  go_wp2_with fail
  exact HR.out _ _ ⟨rfl, K1.out, K2.out⟩
set_option maxRecDepth 10000 in
set_option maxHeartbeats 1000000 in
theorem order9 (E R : Nat) (l : List UInt8) (sh : Bool) (u : Int) (bad : Bool) (w : World) (h : EyeS w E R (leB (10 : Int) 1 ++ l) sh u bad) (hl : l.length ≤ 100000000000) (hu : 0 ≤ u ∧ u ≤ 100000000000) :
    Calls Tryz.prog 54 #[rptr E] w fun e w' => e = .returned (.iface 68 (.agg #[])) ∧ EyeS w' E R l sh (u + 1) bad ∧ Mod (fun i => i = E ∨ i = R) w w' := by
  refine opq fun Rr HR => ?_
  have hc := h.eye.cell
  have hf := h.eye.free
  have hlt := h.eye.lt
  have H := Lib.hid h
  have hE : IntKind.i64.wrap (u + 1) = u + 1 := IntWalk.i64_in _ (by omega)
  clear h
  go_enter Tryz.func54, Tryz.ntmps54
  go_wp2_with fail
  have H2 := Lib.hid (show EyeS (w.setCell ⟨E, 1, none⟩ (.int .i64 (u + 1))) E R (leB (10 : Int) 1 ++ l) sh (u + 1) bad from ⟨H.out.eye.set 1 _, H.out.rd.set_far (p := ⟨E, 1, none⟩) H.out.ne _, H.out.ne⟩)
  have M0 := Lib.hid ((Mod.refl (fun i => i = E ∨ i = R) w).setCell (p := ⟨E, 1, none⟩) (fun _ => .inl rfl) (.int .i64 (u + 1)))
  have HG := Lib.hid (get_any R (leB (10 : Int) 1 ++ l) sh 1 1 (by decide) _ H2.out.rd (by simp only [List.length_append, leB_len]; omega))
  rw [takeL_app _ l sh 1 (leB_len _ _).symm, show leV (leB (10 : Int) 1) = 10 from by decide] at HG
  dsimp only at HG
  refine HG.out.mono ?_
  rintro e w1 ⟨rfl, hB, hM⟩
  have K1 := Lib.hid (show EyeS w1 E R l sh (u + 1) bad from ⟨H2.out.eye.mod hM H2.out.ne, hB, H2.out.ne⟩)
  have K2 := Lib.hid (M0.out.trans (hM.mono (fun i _ e => .inr e)))
  clear hB hM H2 M0 HG hc hf
  go_wp2_with fail
  refine (words_any _).mono ?_
  rintro e w2 ⟨g, rfl, _, M2⟩
  have K3 := Lib.hid (K1.out.same M2)
  have K4 := Lib.hid (K2.out.same M2)
  clear M2 K1 K2
  go_wp2_with fail
  refine (words_any _).mono ?_
  rintro e w3 ⟨g3, rfl, hB3, M3⟩
  have K5 := Lib.hid (K3.out.same M3)
  have K6 := Lib.hid (K4.out.same M3)
  have hcw := hB3.at_ (i := 9) (.string ⟨#[102, 108, 117, 115, 104]⟩) rfl
  have hlw := hB3.lt
  clear M3 K3 K4 hB3
  go_wp2_with fail
  exact HR.out _ _ ⟨rfl, K5.out, K6.out⟩
set_option maxRecDepth 10000 in
set_option maxHeartbeats 1000000 in
theorem order1 (E R : Nat) (n : Int) (hn : I64 n) (l : List UInt8) (sh : Bool) (u : Int) (bad : Bool) (w : World) (h : EyeS w E R (leB (2 : Int) 1 ++ (leB (IntKind.u64.wrap n) 8 ++ l)) sh u bad) (hl : l.length ≤ 100000000000) (hu : 0 ≤ u ∧ u ≤ 100000000000) :
    Calls Tryz.prog 54 #[rptr E] w fun e w' => e = .returned (.iface 79 (.agg #[.int .i64 n])) ∧ EyeS w' E R l sh (u + 9) bad ∧ Mod (fun i => i = E ∨ i = R) w w' := by
  refine opq fun Rr HR => ?_
  have hc := h.eye.cell
  have hf := h.eye.free
  have hlt := h.eye.lt
  have H := Lib.hid h
  have hE : IntKind.i64.wrap (u + 1) = u + 1 := IntWalk.i64_in _ (by omega)
  clear h
  go_enter Tryz.func54, Tryz.ntmps54
  go_wp2_with fail
  have H2 := Lib.hid (show EyeS (w.setCell ⟨E, 1, none⟩ (.int .i64 (u + 1))) E R (leB (2 : Int) 1 ++ (leB (IntKind.u64.wrap n) 8 ++ l)) sh (u + 1) bad from ⟨H.out.eye.set 1 _, H.out.rd.set_far (p := ⟨E, 1, none⟩) H.out.ne _, H.out.ne⟩)
  have M0 := Lib.hid ((Mod.refl (fun i => i = E ∨ i = R) w).setCell (p := ⟨E, 1, none⟩) (fun _ => .inl rfl) (.int .i64 (u + 1)))
  have HG := Lib.hid (get_any R (leB (2 : Int) 1 ++ (leB (IntKind.u64.wrap n) 8 ++ l)) sh 1 1 (by decide) _ H2.out.rd (by simp only [List.length_append, leB_len]; omega))
  rw [takeL_app _ (leB (IntKind.u64.wrap n) 8 ++ l) sh 1 (leB_len _ _).symm, show leV (leB (2 : Int) 1) = 2 from by decide] at HG
  dsimp only at HG
  refine HG.out.mono ?_
  rintro e w1 ⟨rfl, hB, hM⟩
  have K1 := Lib.hid (show EyeS w1 E R (leB (IntKind.u64.wrap n) 8 ++ l) sh (u + 1) bad from ⟨H2.out.eye.mod hM H2.out.ne, hB, H2.out.ne⟩)
  have K2 := Lib.hid (M0.out.trans (hM.mono (fun i _ e => .inr e)))
  clear hB hM H2 M0 HG hc hf
  go_wp2_with fail
  refine (words_any _).mono ?_
  rintro e w2 ⟨g, rfl, _, M2⟩
  have K3 := Lib.hid (K1.out.same M2)
  have K4 := Lib.hid (K2.out.same M2)
  clear M2 K1 K2
  go_wp2_with fail
  refine (words_any _).mono ?_
  rintro e w3 ⟨g3, rfl, hB3, M3⟩
  have K5 := Lib.hid (K3.out.same M3)
  have K6 := Lib.hid (K4.out.same M3)
  have hcw := hB3.at_ (i := 1) (.string ⟨#[100, 101, 108, 101, 116, 101]⟩) rfl
  have hlw := hB3.lt
  clear M3 K3 K4 hB3
  have HC := Lib.hid (volume1 E R n hn l sh (u + 1) bad w3 K5.out (by omega) (by omega))
  rw [show u + 1 + 8 = u + 9 from by omega] at HC
  clear K5
  go_wp2_with fail
  refine HC.out.mono ?_
  rintro e w4 ⟨rfl, h1, h2⟩
  have K7 := Lib.hid h1
  have K8 := Lib.hid (K6.out.trans h2)
  clear h1 h2 HC K6
  go_wp2_with fail
  exact HR.out _ _ ⟨rfl, K7.out, K8.out⟩
set_option maxRecDepth 10000 in
set_option maxHeartbeats 1000000 in
theorem order4 (E R : Nat) (n : Int) (hn : I64 n) (l : List UInt8) (sh : Bool) (u : Int) (bad : Bool) (w : World) (h : EyeS w E R (leB (5 : Int) 1 ++ (leB (IntKind.u64.wrap n) 8 ++ l)) sh u bad) (hl : l.length ≤ 100000000000) (hu : 0 ≤ u ∧ u ≤ 100000000000) :
    Calls Tryz.prog 54 #[rptr E] w fun e w' => e = .returned (.iface 83 (.agg #[.int .i64 n])) ∧ EyeS w' E R l sh (u + 9) bad ∧ Mod (fun i => i = E ∨ i = R) w w' := by
  refine opq fun Rr HR => ?_
  have hc := h.eye.cell
  have hf := h.eye.free
  have hlt := h.eye.lt
  have H := Lib.hid h
  have hE : IntKind.i64.wrap (u + 1) = u + 1 := IntWalk.i64_in _ (by omega)
  clear h
  go_enter Tryz.func54, Tryz.ntmps54
  go_wp2_with fail
  have H2 := Lib.hid (show EyeS (w.setCell ⟨E, 1, none⟩ (.int .i64 (u + 1))) E R (leB (5 : Int) 1 ++ (leB (IntKind.u64.wrap n) 8 ++ l)) sh (u + 1) bad from ⟨H.out.eye.set 1 _, H.out.rd.set_far (p := ⟨E, 1, none⟩) H.out.ne _, H.out.ne⟩)
  have M0 := Lib.hid ((Mod.refl (fun i => i = E ∨ i = R) w).setCell (p := ⟨E, 1, none⟩) (fun _ => .inl rfl) (.int .i64 (u + 1)))
  have HG := Lib.hid (get_any R (leB (5 : Int) 1 ++ (leB (IntKind.u64.wrap n) 8 ++ l)) sh 1 1 (by decide) _ H2.out.rd (by simp only [List.length_append, leB_len]; omega))
  rw [takeL_app _ (leB (IntKind.u64.wrap n) 8 ++ l) sh 1 (leB_len _ _).symm, show leV (leB (5 : Int) 1) = 5 from by decide] at HG
  dsimp only at HG
  refine HG.out.mono ?_
  rintro e w1 ⟨rfl, hB, hM⟩
  have K1 := Lib.hid (show EyeS w1 E R (leB (IntKind.u64.wrap n) 8 ++ l) sh (u + 1) bad from ⟨H2.out.eye.mod hM H2.out.ne, hB, H2.out.ne⟩)
  have K2 := Lib.hid (M0.out.trans (hM.mono (fun i _ e => .inr e)))
  clear hB hM H2 M0 HG hc hf
  go_wp2_with fail
  refine (words_any _).mono ?_
  rintro e w2 ⟨g, rfl, _, M2⟩
  have K3 := Lib.hid (K1.out.same M2)
  have K4 := Lib.hid (K2.out.same M2)
  clear M2 K1 K2
  go_wp2_with fail
  refine (words_any _).mono ?_
  rintro e w3 ⟨g3, rfl, hB3, M3⟩
  have K5 := Lib.hid (K3.out.same M3)
  have K6 := Lib.hid (K4.out.same M3)
  have hcw := hB3.at_ (i := 4) (.string ⟨#[112, 105, 110]⟩) rfl
  have hlw := hB3.lt
  clear M3 K3 K4 hB3
  have HC := Lib.hid (volume4 E R n hn l sh (u + 1) bad w3 K5.out (by omega) (by omega))
  rw [show u + 1 + 8 = u + 9 from by omega] at HC
  clear K5
  go_wp2_with fail
  refine HC.out.mono ?_
  rintro e w4 ⟨rfl, h1, h2⟩
  have K7 := Lib.hid h1
  have K8 := Lib.hid (K6.out.trans h2)
  clear h1 h2 HC K6
  go_wp2_with fail
  exact HR.out _ _ ⟨rfl, K7.out, K8.out⟩
set_option maxRecDepth 10000 in
set_option maxHeartbeats 1000000 in
theorem order10 (E R : Nat) (n : Int) (hn : I64 n) (l : List UInt8) (sh : Bool) (u : Int) (bad : Bool) (w : World) (h : EyeS w E R (leB (11 : Int) 1 ++ (leB (IntKind.u64.wrap n) 8 ++ l)) sh u bad) (hl : l.length ≤ 100000000000) (hu : 0 ≤ u ∧ u ≤ 100000000000) :
    Calls Tryz.prog 54 #[rptr E] w fun e w' => e = .returned (.iface 89 (.agg #[.int .i64 n])) ∧ EyeS w' E R l sh (u + 9) bad ∧ Mod (fun i => i = E ∨ i = R) w w' := by
  refine opq fun Rr HR => ?_
  have hc := h.eye.cell
  have hf := h.eye.free
  have hlt := h.eye.lt
  have H := Lib.hid h
  have hE : IntKind.i64.wrap (u + 1) = u + 1 := IntWalk.i64_in _ (by omega)
  clear h
  go_enter Tryz.func54, Tryz.ntmps54
  go_wp2_with fail
  have H2 := Lib.hid (show EyeS (w.setCell ⟨E, 1, none⟩ (.int .i64 (u + 1))) E R (leB (11 : Int) 1 ++ (leB (IntKind.u64.wrap n) 8 ++ l)) sh (u + 1) bad from ⟨H.out.eye.set 1 _, H.out.rd.set_far (p := ⟨E, 1, none⟩) H.out.ne _, H.out.ne⟩)
  have M0 := Lib.hid ((Mod.refl (fun i => i = E ∨ i = R) w).setCell (p := ⟨E, 1, none⟩) (fun _ => .inl rfl) (.int .i64 (u + 1)))
  have HG := Lib.hid (get_any R (leB (11 : Int) 1 ++ (leB (IntKind.u64.wrap n) 8 ++ l)) sh 1 1 (by decide) _ H2.out.rd (by simp only [List.length_append, leB_len]; omega))
  rw [takeL_app _ (leB (IntKind.u64.wrap n) 8 ++ l) sh 1 (leB_len _ _).symm, show leV (leB (11 : Int) 1) = 11 from by decide] at HG
  dsimp only at HG
  refine HG.out.mono ?_
  rintro e w1 ⟨rfl, hB, hM⟩
  have K1 := Lib.hid (show EyeS w1 E R (leB (IntKind.u64.wrap n) 8 ++ l) sh (u + 1) bad from ⟨H2.out.eye.mod hM H2.out.ne, hB, H2.out.ne⟩)
  have K2 := Lib.hid (M0.out.trans (hM.mono (fun i _ e => .inr e)))
  clear hB hM H2 M0 HG hc hf
  go_wp2_with fail
  refine (words_any _).mono ?_
  rintro e w2 ⟨g, rfl, _, M2⟩
  have K3 := Lib.hid (K1.out.same M2)
  have K4 := Lib.hid (K2.out.same M2)
  clear M2 K1 K2
  go_wp2_with fail
  refine (words_any _).mono ?_
  rintro e w3 ⟨g3, rfl, hB3, M3⟩
  have K5 := Lib.hid (K3.out.same M3)
  have K6 := Lib.hid (K4.out.same M3)
  have hcw := hB3.at_ (i := 10) (.string ⟨#[116, 105, 99, 107]⟩) rfl
  have hlw := hB3.lt
  clear M3 K3 K4 hB3
  have HC := Lib.hid (num_any E R n hn l sh (u + 1) bad w3 K5.out (by omega) (by omega))
  rw [show u + 1 + 8 = u + 9 from by omega] at HC
  clear K5
  go_wp2_with fail
  refine HC.out.mono ?_
  rintro e w4 ⟨rfl, h1, h2⟩
  have K7 := Lib.hid h1
  have K8 := Lib.hid (K6.out.trans h2)
  clear h1 h2 HC K6
  go_wp2_with fail
  exact HR.out _ _ ⟨rfl, K7.out, K8.out⟩
end Go.Proofs.YtdengmlidckkeaaGreatDoor
namespace Go.Proofs.YtdengmlidckkeaaGreatDoor
open Go Go.RowKit
/-- An order of a plain kind: delete, pin, flush, tick. -/
structure PO where
  k : Nat
  ns : List Int
def poVal (o : PO) : Value := .iface (kT o.k) (.agg (o.ns.map (Value.int .i64)).toArray)
def PO.ok (o : PO) : Prop := (o.k = 9 ∧ o.ns = []) ∨ ((o.k = 1 ∨ o.k = 4 ∨ o.k = 10) ∧ ∃ n, I64 n ∧ o.ns = [n])
def packO (o : PO) : List UInt8 := packN o.k o.ns
theorem PO.lt {o : PO} (h : o.ok) : o.k < 15 := by rcases h with ⟨h, _⟩ | ⟨h | h | h, _⟩ <;> omega
theorem PO.i64 {o : PO} (h : o.ok) : ∀ n ∈ o.ns, I64 n := by
  rcases h with ⟨_, h⟩ | ⟨_, n, hn, h⟩ <;> rw [h] <;> intro x hx
  · cases hx
  · rw [List.mem_singleton] at hx; rw [hx]; exact hn
theorem PO.len {o : PO} (h : o.ok) : o.ns.length ≤ 1 := by
  rcases h with ⟨_, h⟩ | ⟨_, n, hn, h⟩ <;> rw [h] <;> simp
theorem packO_len {o : PO} (h : o.ok) : 1 ≤ (packO o).length ∧ (packO o).length ≤ 9 := by
  have := PO.len h
  unfold packO packN; rw [List.length_append, leB_len, numsL_len]; omega
theorem PO.text {o : PO} (h : o.ok) : (textN o.k o.ns).length ≤ 140737488355328 := by
  rcases h with ⟨h1, h2⟩ | ⟨h1, n, hn, h2⟩
  · rw [h1, h2]; decide
  · have := Lib.itoa_length_le n hn.1 hn.2
    rw [h2]
    unfold textN
    rw [List.map_singleton, Lib.join_cons]
    have hw : (wordL o.k).length ≤ 10 := by rcases h1 with h1 | h1 | h1 <;> rw [h1] <;> decide
    rw [List.length_append]
    unfold Lib.joinTail
    simp
    omega
theorem PO.parts {o : PO} (h : o.ok) (w : World) : Calls Tryz.prog 37 #[.iface (kT o.k) (.agg (o.ns.map (Value.int .i64)).toArray)] w (PartsV w (o.ns.map (Value.int .i64)) []) := by
  obtain ⟨k, ns⟩ := o
  rcases h with ⟨h1, h2⟩ | ⟨h1 | h1 | h1, n, hn, h2⟩ <;> dsimp only at h1 h2 ⊢ <;> subst h1 <;> subst h2
  · exact parts57 w
  · exact parts62 n w
  · exact parts61 n w
  · exact parts26 n w
theorem po_line {o : PO} (h : o.ok) (w : World) (hT : TabOK w) : Calls Tryz.prog 11 #[poVal o] w fun e w' => e = .returned (.tuple #[.string ⟨(textN o.k o.ns).toArray⟩, .int .i64 0]) ∧ Same w w' :=
  line_any o.k (PO.lt h) o.ns (PO.i64 h) (Nat.le_trans (PO.len h) (by decide)) (PO.text h) _ w hT (PO.parts h)
theorem po_put {o : PO} (h : o.ok) (w : World) (hT : TabOK w) (B b : Nat) (l : List UInt8) (hW : WrF w B b (Lib.byteCells l)) (hlen : l.length ≤ 100000000000000) (hBw : B ≤ w.heap.size) (h4 : 4 < B) :
    Calls Tryz.prog 48 #[.pointer (some ⟨b, 0, none⟩), poVal o] w fun e w' => e = .returned (.int .i64 0) ∧ WrF w' B b (Lib.byteCells (l ++ packO o)) ∧ Below B w w' :=
  pput_any o.k (PO.lt h) o.ns (PO.i64 h) (Nat.le_trans (PO.len h) (by decide)) (PO.text h) _ w hT (PO.parts h) B b l hW hlen hBw h4
theorem po_order {o : PO} (h : o.ok) (E R : Nat) (l : List UInt8) (sh : Bool) (u : Int) (bad : Bool) (w : World) (hS : EyeS w E R (packO o ++ l) sh u bad) (hl : l.length ≤ 100000000000) (hu : 0 ≤ u ∧ u ≤ 100000000000) :
    Calls Tryz.prog 54 #[rptr E] w fun e w' => e = .returned (poVal o) ∧ EyeS w' E R l sh (u + (packO o).length) bad ∧ Mod (fun i => i = E ∨ i = R) w w' := by
  obtain ⟨k, ns⟩ := o
  rcases h with ⟨h1, h2⟩ | ⟨h1 | h1 | h1, n, hn, h2⟩ <;> dsimp only at h1 h2 <;> subst h1 <;> subst h2
  · exact order9 E R l sh u bad w hS hl hu
  · have e : packO ⟨1, [n]⟩ ++ l = leB (2 : Int) 1 ++ (leB (IntKind.u64.wrap n) 8 ++ l) := by unfold packO packN numsL; simp
    rw [e] at hS
    exact order1 E R n hn l sh u bad w hS hl hu
  · have e : packO ⟨4, [n]⟩ ++ l = leB (5 : Int) 1 ++ (leB (IntKind.u64.wrap n) 8 ++ l) := by unfold packO packN numsL; simp
    rw [e] at hS
    exact order4 E R n hn l sh u bad w hS hl hu
  · have e : packO ⟨10, [n]⟩ ++ l = leB (11 : Int) 1 ++ (leB (IntKind.u64.wrap n) 8 ++ l) := by unfold packO packN numsL; simp
    rw [e] at hS
    exact order10 E R n hn l sh u bad w hS hl hu
end Go.Proofs.YtdengmlidckkeaaGreatDoor
namespace Go.Proofs.YtdengmlidckkeaaGreatDoor
open Go Go.RowKit
theorem packO_ne {o : PO} (h : o.ok) : packO o ≠ [] := by
  intro e; have := (packO_len h).1; rw [e] at this; simp at this
set_option maxRecDepth 10000 in
theorem bytes_po {o : PO} (h : o.ok) (w : World) (hT : TabOK w) : Calls Tryz.prog 22 #[poVal o] w fun e w' => e = .returned (.tuple #[.string ⟨(packO o).toArray⟩, .int .i64 0]) ∧ Same w w' := by
  refine opq fun R HR => ?_
  have HPt := Lib.hid (fun w hT B b l hW h1 h2 h3 => po_put h w hT B b l hW h1 h2 h3)
  have HNe := Lib.hid (packO_ne h)
  have h4 := tab_lt hT
  have HT := Lib.hid (tab_same hT ((Mod.refl (fun _ => False) w).alloc (.cells #[.pointer none, .slice none 0 0] 115)))
  obtain ⟨T, x, hv⟩ : ∃ T x, poVal o = .iface T x := ⟨_, _, rfl⟩
  rw [hv] at HPt ⊢
  clear hT hv
  have H0 := Lib.hid (wr_new w w.heap.size (Nat.le_refl _))
  have B0 := Lib.hid (Below.alloc (Below.refl w.heap.size w) (Nat.le_refl _) (.cells #[.pointer none, .slice none 0 0] 115))
  have hsz : w.heap.size ≤ (w.alloc (.cells #[.pointer none, .slice none 0 0] 115)).heap.size := B0.out.size
  go_enter Tryz.func22, Tryz.ntmps22
  go_wp2_with fail
  generalize w.alloc _ = W at *
  generalize hZ : w.heap.size = Z at *
  refine (HPt.out W HT.out Z Z [] H0.out (by simp) hsz h4).mono ?_
  rintro e w1 ⟨rfl, h1, h2⟩
  rw [List.nil_append] at h1
  have K1 := Lib.hid h1
  have K2 := Lib.hid (B0.out.trans h2)
  clear h1 h2 H0 B0 HPt
  go_wp2_with fail
  refine (string_any Z Z _ w1 K1.out HNe.out).mono ?_
  rintro e w2 ⟨rfl, h1⟩
  have K3 := Lib.hid (K2.out.trans h1)
  clear h1
  go_wp2
  exact HR.out _ _ ⟨rfl, Same.of_below (by rw [hZ]; exact K3.out)⟩
set_option maxRecDepth 10000 in
theorem alike_po {o : PO} (h : o.ok) (w : World) (hT : TabOK w) : Calls Tryz.prog 31 #[poVal o, poVal o] w fun e w' => e = .returned (.bool true) ∧ Same w w' := by
  refine opq fun R HR => ?_
  have HL := Lib.hid (fun w hT => po_line h w hT)
  have HT := Lib.hid hT
  obtain ⟨T, x, hv⟩ : ∃ T x, poVal o = .iface T x := ⟨_, _, rfl⟩
  rw [hv] at HL ⊢
  generalize textN o.k o.ns = tx at *
  clear hT hv
  go_enter Tryz.func31, Tryz.ntmps31
  go_wp2_with fail
  refine (HL.out _ HT.out).mono ?_
  rintro e w1 ⟨rfl, M1⟩
  have K1 := Lib.hid M1
  clear M1
  go_wp2_with fail
  refine (HL.out _ (tab_same HT.out K1.out)).mono ?_
  rintro e w2 ⟨rfl, M2⟩
  have K2 := Lib.hid (K1.out.same M2)
  clear M2
  go_wp2
  exact HR.out _ _ ⟨rfl, K2.out⟩
set_option maxRecDepth 10000 in
theorem bytes_nil (w : World) : Calls Tryz.prog 22 #[.nilIface] w fun e w' => e = .returned (.tuple #[.string ⟨#[]⟩, .int .i64 1]) ∧ Same w w' := by
  refine opq fun R HR => ?_
  go_enter Tryz.func22, Tryz.ntmps22
  have HP := Lib.hid (fun w => parts_nil w)
  go_wp2_with (first
    | (go_at_call 37; refine (HP.out _).mono ?_; rintro e w1 ⟨rfl, M1⟩; have K1 := Lib.hid M1; clear M1)
    | go_in)
  exact HR.out _ _ ⟨rfl, (((Mod.refl (fun _ => False) w).alloc _)).same K1.out⟩
end Go.Proofs.YtdengmlidckkeaaGreatDoor
namespace Go.Proofs.YtdengmlidckkeaaGreatDoor
open Go Go.RowKit
/-- All orders' bytes. -/
def allL (L : List PO) : List UInt8 := leB (L.length : Int) 2 ++ L.flatMap packO
theorem flat_take (L : List PO) (k : Nat) (o : PO) (h : L[k]? = some o) : (L.take (k + 1)).flatMap packO = (L.take k).flatMap packO ++ packO o := by
  obtain ⟨hk, rfl⟩ := List.getElem?_eq_some_iff.1 h
  rw [List.take_succ_eq_append_getElem hk, List.flatMap_append]; simp
theorem flat_len (L : List PO) (hL : ∀ o ∈ L, o.ok) : (L.flatMap packO).length ≤ 9 * L.length := by
  induction L with
  | nil => simp
  | cons a l ih =>
    have := (packO_len (hL a (List.mem_cons_self))).2
    have := ih (fun o ho => hL o (List.mem_cons_of_mem _ ho))
    rw [List.flatMap_cons, List.length_append, List.length_cons]; omega
theorem poVal_iface (o : PO) : ∃ T x, poVal o = .iface T x := ⟨_, _, rfl⟩
theorem all_many (b o0 n c : Nat) (w : World) (hn : 400 < n) (hn2 : n ≤ 1000) : Calls Tryz.prog 25 #[.slice (some ⟨b, o0, none⟩) n c] w fun e w' => e = .returned (.tuple #[.string ⟨#[]⟩, .int .i64 1]) ∧ Same w w' := by
  refine opq fun R HR => ?_
  go_enter Tryz.func25, Tryz.ntmps25
  go_wp2
  exact HR.out _ _ ⟨rfl, Mod.refl _ _⟩
set_option maxRecDepth 10000 in
set_option maxHeartbeats 1000000 in
theorem all_po (L : List PO) (hL : ∀ o ∈ L, o.ok) (b o0 n c : Nat) (hn : L.length = n) (hn0 : 0 < n) (hn4 : n ≤ 400) (w : World) (hT : TabOK w) (hb : b < w.heap.size) (hc : ∀ i o, L[i]? = some o → w.cell? ⟨b, o0 + i, none⟩ = some (poVal o)) :
    Calls Tryz.prog 25 #[.slice (some ⟨b, o0, none⟩) n c] w fun e w' => e = .returned (.tuple #[.string ⟨(sealL (allL L)).toArray⟩, .int .i64 0]) ∧ Same w w' := by
  refine opq fun R HR => ?_
  have HL := Lib.hid hL
  have HN := Lib.hid hn
  have HT := Lib.hid hT
  have HC := Lib.hid hc
  have h4 := tab_lt hT
  have hlen9 := flat_len L hL
  have HLen := Lib.hid hlen9
  clear hL hn hT hc hlen9
  have H0 := Lib.hid (wr_new w w.heap.size (Nat.le_refl _))
  have B0 := Lib.hid (Below.alloc (Below.refl w.heap.size w) (Nat.le_refl _) (.cells #[.pointer none, .slice none 0 0] 115))
  have hnn : U64 (n : Int) := by unfold U64; omega
  go_enter Tryz.func25, Tryz.ntmps25
  go_wp2_with fail
  have hW0 : w.heap.size ≤ (w.alloc (.cells #[.pointer none, .slice none 0 0] 115)).heap.size := B0.out.size
  generalize w.alloc _ = W at *
  generalize hZ : w.heap.size = Z at *
  refine (put_any Z Z [] (n : Int) 2 2 (by decide) W H0.out hnn (by simp) hW0).mono ?_
  rintro e w1 ⟨rfl, h1, h2, _⟩
  rw [List.nil_append] at h1
  have K1 := Lib.hid h1
  have K2 := Lib.hid (B0.out.trans h2)
  clear h1 h2 H0 B0
  go_wp2_with fail
  go_loopw [17, 6, 7] (fun i _ _ wr => ∃ k : Nat, k ≤ n ∧ i = .int .i64 k ∧ WrF wr Z Z (Lib.byteCells (leB (n : Int) 2 ++ (L.take k).flatMap packO)) ∧ Below Z w wr) (fun i _ _ _ => n - (intOf i).toNat)
  case atStart => exact ⟨0, by omega, rfl, by simpa using K1.out, K2.out⟩
  case round =>
    obtain ⟨k, hk, rfl, hW, hB⟩ := hrel
    have L1 := Lib.hid hW
    have L2 := Lib.hid hB
    have hszr : Z ≤ wr.heap.size := by rw [← hZ]; exact hB.size
    clear hW hB
    by_cases hlt : k < n
    · have hkL : k < L.length := by rw [HN.out]; exact hlt
      obtain ⟨o, ho⟩ : ∃ o, L[k]? = some o := ⟨_, List.getElem?_eq_getElem hkL⟩
      have hok := HL.out o (List.mem_of_getElem? ho)
      have hcx := (World.cell?_of_block (w := w) (L2.out.block b (by omega))).trans (HC.out k o ho)
      have E := Lib.hid (flat_take L k o ho)
      have hlk : ((L.take k).flatMap packO).length ≤ 9 * k := by
        have := flat_len (L.take k) (fun o ho => HL.out o (List.mem_of_mem_take ho))
        rw [List.length_take] at this; omega
      have HPt := Lib.hid (po_put hok wr (tab_below HT.out L2.out (by omega)) Z Z _ L1.out (by rw [List.length_append, leB_len]; omega) hszr (by omega))
      have hbr : b < wr.heap.size := by omega
      have hk1 : (0 : Int) ≤ (k : Int) := by omega
      have hk2 : (k : Int) < (n : Int) := by omega
      obtain ⟨T, x, hv⟩ := poVal_iface o
      rw [hv] at hcx HPt
      clear ho hkL hok hv hlk
      go_wp2_with fail
      refine HPt.out.mono ?_
      rintro e w2 ⟨rfl, h1, h2⟩
      have P1 := Lib.hid h1
      have P2 := Lib.hid (L2.out.trans h2)
      clear h1 h2 L1 L2 HPt hcx
      go_wp2_with fail
      go_roundw
      case rel => exact ⟨k + 1, by omega, by go_num, by rw [E.out, ← List.append_assoc]; exact P1.out, P2.out⟩
      case measure => simp [intOf]; omega
    · obtain rfl : k = n := by omega
      have eL : leB (k : Int) 2 ++ (L.take k).flatMap packO = allL L := by
        unfold allL; rw [HN.out, List.take_of_length_le (by rw [HN.out]; exact Nat.le_refl _)]
      rw [eL] at L1
      have hne : allL L ≠ [] := by
        intro e; have := congrArg List.length e; unfold allL at this; rw [List.length_append, leB_len] at this; simp at this
      have hal : (allL L).length ≤ 9 * k + 2 := by unfold allL; rw [List.length_append, leB_len]; have := HLen.out; have := HN.out; omega
      generalize allL L = A at *
      clear eL K1 K2
      go_wp2_with fail
      refine (string_any Z Z A wr L1.out hne).mono ?_
      rintro e w2 ⟨rfl, h1⟩
      have P2 := Lib.hid (L2.out.trans h1)
      clear h1 L1 L2
      go_wp2_with fail
      refine (seal_any ⟨A.toArray⟩ w2 (by rw [bytes_size]; omega)).mono ?_
      rintro e w3 ⟨rfl, M3⟩
      have P3 := Lib.hid (Same.of_below (by rw [hZ]; exact P2.out) |>.same M3)
      clear M3 P2
      go_wp2
      exact HR.out _ _ ⟨rfl, P3.out⟩
end Go.Proofs.YtdengmlidckkeaaGreatDoor
namespace Go.Proofs.YtdengmlidckkeaaGreatDoor
open Go Go.RowKit
theorem info41 : (Tryz.prog.info? 24).map (fun i => (i.zero, i.size, i.bytes)) = some (some .nilIface, 1, 16) := by kernel_rfl
theorem owns_mod {w w' : World} {S : Nat → Prop} {base size n : Nat} {e : TypeId} {v : Value} {xs : List Value} (h : w.ownsRow base e size v n xs) (M : Mod S w w') (hS : ∀ i, S i → i < base) : w'.ownsRow base e size v n xs := by
  obtain ⟨hl, h0 | ⟨g, cap, cur, hv, hb, hh, r⟩⟩ := h
  · exact ⟨hl, .inl h0⟩
  · have hlt : g < w.heap.size := by
      rcases Nat.lt_or_ge g w.heap.size with q | q
      · exact q
      · rw [Array.getElem?_eq_none q] at hh; cases hh
    exact ⟨hl, .inr ⟨g, cap, cur, hv, hb, (M.block g hlt (fun q => by have := hS g q; omega)).trans hh, r⟩⟩
theorem take_vals (L : List PO) (k : Nat) (o : PO) (h : L[k]? = some o) : (L.take (k + 1)).map poVal = (L.take k).map poVal ++ [poVal o] := by
  obtain ⟨hk, rfl⟩ := List.getElem?_eq_some_iff.1 h
  rw [List.take_succ_eq_append_getElem hk, List.map_append]; rfl
theorem drop_flat (L : List PO) (k : Nat) (o : PO) (h : L[k]? = some o) : (L.drop k).flatMap packO = packO o ++ (L.drop (k + 1)).flatMap packO := by
  obtain ⟨hk, rfl⟩ := List.getElem?_eq_some_iff.1 h
  rw [List.drop_eq_getElem_cons hk, List.flatMap_cons]
theorem leV_two (n : Nat) (h : n ≤ 400) : leV (leB (n : Int) 2) = n := by
  rw [leV_leB _ (by omega)]
  have : (256 : Int) ^ 2 = 65536 := by decide
  rw [this]; omega
/-- A list of orders in memory. -/
def ListAt (w : World) (a : Option Addr) (L : List PO) : Prop := 0 < L.length → ∃ b o, a = some ⟨b, o, none⟩ ∧ b < w.heap.size ∧ ∀ i p, L[i]? = some p → w.cell? ⟨b, o + i, none⟩ = some (poVal p)
set_option maxRecDepth 10000 in
set_option maxHeartbeats 4000000 in
theorem parse_po (L : List PO) (hL : ∀ o ∈ L, o.ok) (n : Nat) (hn : L.length = n) (hn4 : n ≤ 400) (w : World) :
    Calls Tryz.prog 29 #[.string ⟨(sealL (allL L)).toArray⟩] w fun e w' => ∃ a c, e = .returned (.tuple #[.slice a n c, .int .i64 0]) ∧ ListAt w' a L ∧ Same w w' := by
  refine opq fun Rr HR => ?_
  have HL := Lib.hid hL
  have HN := Lib.hid hn
  have HLen := Lib.hid (flat_len L hL)
  have hal : (allL L).length ≤ 9 * n + 2 := by unfold allL; rw [List.length_append, leB_len]; have := HLen.out; omega
  have hal2 : 2 ≤ (allL L).length := by unfold allL; rw [List.length_append, leB_len]; omega
  have HO := Lib.hid (open_any (sealL (allL L)) w (by rw [sealL_len]; omega))
  rw [openL_sealL] at HO
  dsimp only at HO
  have HA := Lib.hid (show allL L = leB (n : Int) 2 ++ L.flatMap packO by unfold allL; rw [hn])
  have hbs := bytes_size (allL L)
  generalize sealL (allL L) = S at *
  generalize allL L = A at *
  clear hL hn
  go_enter Tryz.func29, Tryz.ntmps29
  go_wp2_with fail
  refine HO.out.mono ?_
  rintro e w1 ⟨rfl, M1⟩
  have K1 := Lib.hid M1
  clear M1 HO
  go_wp2_with fail
  refine (of_any A _).mono ?_
  rintro e w2 ⟨rfl, hB, M2⟩
  have K2 := Lib.hid (K1.out.same M2)
  have hRl : w1.heap.size < w2.heap.size := hB.lt
  have KB := Lib.hid hB
  clear M2 hB
  go_wp2_with fail
  have ES := Lib.hid (show EyeS (w2.alloc (.cells #[rptr w1.heap.size, .int .i64 0, .bool false] 124)) w2.heap.size w1.heap.size A false 0 false from ⟨Blk.new w2 _ _, KB.out.alloc _, by omega⟩)
  have K3 := Lib.hid (K2.out.alloc (.cells #[rptr w1.heap.size, .int .i64 0, .bool false] 124))
  have hEl := ES.out.eye.lt
  have hRw : w.heap.size ≤ w1.heap.size := K1.out.size
  have hEw : w.heap.size ≤ w2.heap.size := K2.out.size
  generalize w2.alloc _ = W at *
  generalize w2.heap.size = E at *
  generalize w1.heap.size = R at *
  have HG := Lib.hid (get_any R A false 2 2 (by decide) W ES.out.rd (by omega))
  rw [HA.out, takeL_app _ _ _ 2 (leB_len _ _).symm] at HG
  dsimp only at HG
  rw [leV_two n hn4] at HG
  refine HG.out.mono ?_
  rintro e w3 ⟨rfl, hB3, hM3⟩
  have E3 := Lib.hid (show EyeS w3 E R (L.flatMap packO) false 0 false from ⟨ES.out.eye.mod hM3 ES.out.ne, hB3, ES.out.ne⟩)
  have K4 := Lib.hid (K3.out.then_ hM3 (fun i hi (e : i = R) => by omega))
  have hE3 : E < w3.heap.size := E3.out.eye.lt
  have hR3 : R < w3.heap.size := E3.out.rd.lt
  have hi64 := i64_same (n : Int) (by omega)
  obtain ⟨i0, hi, hz0, hz1, hz2⟩ := info_parts info41
  have I0 := Lib.hid hi
  have Z0 := Lib.hid hz0
  have Z1 := Lib.hid hz1
  have Z2 := Lib.hid hz2
  clear hi hz0 hz1 hz2 hB3 hM3 HG ES K3 K2 KB K1 hEl hRl HA hbs hal2
  go_wp2_with fail
  go_loopw [34, 8] (fun i v wr => ∃ (k : Nat) (u : Int), k ≤ n ∧ i = .int .i64 k ∧ wr.ownsRow w3.heap.size 24 1 v k ((L.take k).map poVal) ∧ EyeS wr E R ((L.drop k).flatMap packO) false u false ∧ (0 ≤ u ∧ u ≤ 10 * k) ∧ Mod (fun i => i = E ∨ i = R) w3 wr) (fun i _ _ => n - (intOf i).toNat)
  case atStart => exact ⟨0, 0, by omega, rfl, World.ownsRow_nil _ _ _ _, E3.out, by omega, Mod.refl _ _⟩
  case round =>
    obtain ⟨k, u, hk, rfl, hown, hes, hu, hM⟩ := hrel
    have L1 := Lib.hid hown
    have L2 := Lib.hid hes
    have L3 := Lib.hid hM
    have hszr := hM.size
    clear hown hes hM
    by_cases hlt : k < n
    · have hkL : k < L.length := by rw [HN.out]; exact hlt
      obtain ⟨o, ho⟩ : ∃ o, L[k]? = some o := ⟨_, List.getElem?_eq_getElem hkL⟩
      have hok := HL.out o (List.mem_of_getElem? ho)
      have hd := drop_flat L k o ho
      have hpl := packO_len hok
      have hdl : ((L.drop (k + 1)).flatMap packO).length ≤ 9 * n := by
        have := flat_len (L.drop (k + 1)) (fun o ho => HL.out o (List.mem_of_mem_drop ho))
        have hN := HN.out
        rw [List.length_drop] at this; omega
      have HOr := Lib.hid (po_order hok E R ((L.drop (k + 1)).flatMap packO) false u false wr (by rw [← hd]; exact L2.out) (by omega) (by omega))
      have ET := Lib.hid (take_vals L k o ho)
      obtain ⟨T, x, hv⟩ := poVal_iface o
      rw [hv] at HOr ET
      clear ho hkL hok hv hd L2
      go_wp2_with fail
      refine HOr.out.mono ?_
      rintro e w4 ⟨rfl, h1, h2⟩
      have P1 := Lib.hid h1
      have P2 := Lib.hid (L3.out.trans h2)
      have P3 := Lib.hid (owns_mod L1.out h2 (fun i q => by rcases q with q | q <;> omega))
      have hsz4 : w3.heap.size ≤ w4.heap.size := P2.out.size
      clear h1 h2 L1 L3 HOr
      go_wp2_with (at_builtin; refine wpList_append_own _ rfl (.tmp 36) (.tmp 39) 49 rfl w3.heap.size 24 i0 .nilIface 1 16 Tryz.underlying49 I0.out Z0.out Z1.out Z2.out rfl (by decide) _ _ _ rfl (P3.out.alloc _) ⟨w4.heap.size, 0, none⟩ 1 1 [.iface T x] rfl rfl (one_new _ _ _) (fun u hu => (by simp at hu; subst hu; rfl)) (by unfold maxLen; omega) (by omega) (by simp only [World.size_alloc]; omega) ?_; intro v' w5 hown' hgrow _)
      have Q1 := Lib.hid (same_append P2.out P3.out hgrow)
      have Q2 := Lib.hid hown'
      have Q3 := Lib.hid (show EyeS w5 E R ((L.drop (k + 1)).flatMap packO) false (u + (packO o).length) false from ⟨blk_append P1.out.eye hE3 P3.out hgrow, blk_append P1.out.rd hR3 P3.out hgrow, P1.out.ne⟩)
      clear hown' hgrow P1 P2 P3
      go_roundw
      case rel => exact ⟨k + 1, _, by omega, by go_num, by rw [ET.out]; exact Q2.out, Q3.out, by omega, Q1.out⟩
      case measure => simp [intOf]; omega
    · obtain rfl : k = n := by omega
      have ed : (L.drop k).flatMap packO = [] := by rw [List.drop_of_length_le (by rw [HN.out]; exact Nat.le_refl _)]; rfl
      have et : L.take k = L := List.take_of_length_le (by rw [HN.out]; exact Nat.le_refl _)
      rw [ed] at L2
      rw [et] at L1
      have HE := Lib.hid (end_any R [] false wr L2.out.rd)
      have hc := L2.out.eye.cell
      have hl := L2.out.eye.lt
      obtain ⟨va, vc, rfl⟩ := owns_slice L1.out
      clear ed et E3
      go_wp2_with fail
      refine HE.out.mono ?_
      rintro e w4 ⟨rfl, M4⟩
      have P1 := Lib.hid ((K4.out.then_ L3.out (fun i hi q => by rcases q with q | q <;> omega)).same M4)
      have P2 := Lib.hid (owns_same L1.out M4)
      clear M4 L1 L2 L3 hc hl HE
      go_wp2
      refine HR.out _ _ ⟨_, _, rfl, fun q => ?_, P1.out⟩
      obtain ⟨g, cap, hv, hg0, hgc, hrow⟩ := RowV.of_owns P2.out (by rw [← HN.out]; exact q)
      cases hv
      refine ⟨g, 0, rfl, hrow.lt, fun i p hp => ?_⟩
      have hi : i < L.length := (List.getElem?_eq_some_iff.1 hp).1
      rw [Nat.zero_add]
      refine (hrow.cell i (by have := HN.out; omega)).trans ?_
      rw [List.getD_eq_getElem?_getD, List.getElem?_map, hp]; rfl
end Go.Proofs.YtdengmlidckkeaaGreatDoor
namespace Go.Proofs.YtdengmlidckkeaaGreatDoor
open Go Go.RowKit
/-- An eye's state: what is left, whether there were too few, how many were used, whether something was wrong. -/
structure ES where
  l : List UInt8
  sh : Bool
  u : Int
  bad : Bool
abbrev EyeA (w : World) (E R : Nat) (s : ES) : Prop := EyeS w E R s.l s.sh s.u s.bad
def numS (s : ES) : Int × ES := (IntKind.i64.wrap (leV (takeL s.l s.sh 8).1), ⟨(takeL s.l s.sh 8).2.1, (takeL s.l s.sh 8).2.2, s.u + 8, s.bad⟩)
/-- The length that two bytes tell. -/
def lenS (s : ES) : Nat := (leV (takeL s.l s.sh 2).1).toNat
def txtS (s : ES) : List UInt8 × ES :=
  ((takeL (takeL s.l s.sh 2).2.1 (takeL s.l s.sh 2).2.2 (lenS s)).1, ⟨(takeL (takeL s.l s.sh 2).2.1 (takeL s.l s.sh 2).2.2 (lenS s)).2.1, (takeL (takeL s.l s.sh 2).2.1 (takeL s.l s.sh 2).2.2 (lenS s)).2.2, s.u + 2 + (lenS s : Int), s.bad || decide (512 < lenS s)⟩)
/-- The state is small enough for c further steps. -/
def ES.ok (c : Nat) (s : ES) : Prop := s.l.length ≤ 1000000 ∧ 0 ≤ s.u ∧ s.u + 70000 * c ≤ 100000000000
theorem takeL_le (l : List UInt8) (sh : Bool) (n : Nat) : (takeL l sh n).1.length ≤ n ∧ (takeL l sh n).2.1.length ≤ l.length := takeL_len l sh n
theorem lenS_lt (s : ES) : lenS s < 65536 ∧ ((lenS s : Nat) : Int) = leV (takeL s.l s.sh 2).1 := by
  have h1 := leV_bd (takeL s.l s.sh 2).1
  have h2 := (takeL_le s.l s.sh 2).1
  have h3 : (256 : Int) ^ (takeL s.l s.sh 2).1.length ≤ 65536 := by
    have : (takeL s.l s.sh 2).1.length = 0 ∨ (takeL s.l s.sh 2).1.length = 1 ∨ (takeL s.l s.sh 2).1.length = 2 := by omega
    rcases this with e | e | e <;> rw [e] <;> decide
  unfold lenS
  omega
theorem num_ok {c : Nat} {s : ES} (h : s.ok (c + 1)) : (numS s).2.ok c := by
  obtain ⟨h1, h2, h3⟩ := h
  have := (takeL_le s.l s.sh 8).2
  exact ⟨by show (takeL s.l s.sh 8).2.1.length ≤ _; omega, by show 0 ≤ s.u + 8; omega, by show s.u + 8 + _ ≤ _; omega⟩
theorem txt_ok {c : Nat} {s : ES} (h : s.ok (c + 1)) : (txtS s).2.ok c := by
  obtain ⟨h1, h2, h3⟩ := h
  have h4 := (takeL_le s.l s.sh 2).2
  have h5 := (takeL_le (takeL s.l s.sh 2).2.1 (takeL s.l s.sh 2).2.2 (lenS s)).2
  have h6 := (lenS_lt s).1
  exact ⟨by show (takeL _ _ _).2.1.length ≤ _; omega, by show 0 ≤ s.u + 2 + (lenS s : Int); omega, by show s.u + 2 + (lenS s : Int) + _ ≤ _; omega⟩
theorem ok_less {c d : Nat} {s : ES} (h : s.ok c) (hd : d ≤ c) : s.ok d := ⟨h.1, h.2.1, by have := h.2.2; omega⟩
set_option maxRecDepth 10000 in
theorem num_all (E R : Nat) (s s' : ES) (n : Int) (hs : numS s = (n, s')) (w : World) (h : EyeA w E R s) (ok : s.ok 1) :
    Calls Tryz.prog 82 #[rptr E] w fun e w' => e = .returned (.int .i64 n) ∧ EyeA w' E R s' ∧ Mod (fun i => i = E ∨ i = R) w w' := by
  refine opq fun Rr HR => ?_
  obtain ⟨l, sh, u, bad⟩ := s
  obtain ⟨hl, hu0, hu⟩ := ok
  dsimp only at hl hu0 hu h
  have hc := h.eye.cell
  have hf := h.eye.free
  have hlt := h.eye.lt
  have H := Lib.hid h
  have hE : IntKind.i64.wrap (u + 8) = u + 8 := IntWalk.i64_in _ (by omega)
  have HS := Lib.hid hs
  clear h hs
  go_enter Tryz.func82, Tryz.ntmps82
  go_wp2_with fail
  have H2 := Lib.hid (show EyeS (w.setCell ⟨E, 1, none⟩ (.int .i64 (u + 8))) E R l sh (u + 8) bad from ⟨H.out.eye.set 1 _, H.out.rd.set_far (p := ⟨E, 1, none⟩) H.out.ne _, H.out.ne⟩)
  have M0 := Lib.hid ((Mod.refl (fun i => i = E ∨ i = R) w).setCell (p := ⟨E, 1, none⟩) (fun _ => .inl rfl) (.int .i64 (u + 8)))
  have HG := Lib.hid (get_any R l sh 8 8 (by decide) _ H2.out.rd (by omega))
  have hz : IntKind.i64.wrap (leV (takeL l sh 8).1) = n := congrArg Prod.fst HS.out
  generalize leV (takeL l sh 8).1 = z at *
  refine HG.out.mono ?_
  rintro e w1 ⟨rfl, hB, hM⟩
  have K1 := Lib.hid (show EyeA w1 E R s' by
    have e := congrArg Prod.snd HS.out
    dsimp only [numS] at e
    subst e
    exact ⟨H2.out.eye.mod hM H2.out.ne, hB, H2.out.ne⟩)
  have K2 := Lib.hid (M0.out.trans (hM.mono (fun i _ e => .inr e)))
  clear hB hM H2 M0 HG hc hf
  go_wp2_with fail
  exact HR.out _ _ ⟨rfl, K1.out, K2.out⟩
set_option maxRecDepth 10000 in
set_option maxHeartbeats 1000000 in
theorem txt_all (E R : Nat) (s s' : ES) (t : List UInt8) (hs : txtS s = (t, s')) (w : World) (h : EyeA w E R s) (ok : s.ok 1) :
    Calls Tryz.prog 98 #[rptr E] w fun e w' => e = .returned (.string ⟨t.toArray⟩) ∧ EyeA w' E R s' ∧ Mod (fun i => i = E ∨ i = R) w w' := by
  refine opq fun Rr HR => ?_
  have hn := lenS_lt s
  have HS := Lib.hid hs
  obtain ⟨l, sh, u, bad⟩ := s
  obtain ⟨hl, hu0, hu⟩ := ok
  dsimp only at hl hu0 hu h hn
  have hc := h.eye.cell
  have hf := h.eye.free
  have hlt := h.eye.lt
  have H := Lib.hid h
  have ht2 := (takeL_le l sh 2).2
  have HG := Lib.hid (get_any R l sh 2 2 (by decide) w h.rd (by omega))
  obtain ⟨n, hnn⟩ : ∃ n, lenS ⟨l, sh, u, bad⟩ = n := ⟨_, rfl⟩
  have HN := Lib.hid hnn
  rw [hnn] at hn
  obtain ⟨hn1, hn2⟩ := hn
  rw [← hn2] at HG
  have hz : IntKind.i64.wrap (n : Int) = (n : Int) := IntWalk.i64_in _ (by omega)
  have hz2 : IntKind.i64.wrap (2 + (n : Int)) = 2 + (n : Int) := IntWalk.i64_in _ (by omega)
  have hz3 : IntKind.i64.wrap (u + (2 + (n : Int))) = u + (2 + (n : Int)) := IntWalk.i64_in _ (by omega)
  obtain ⟨l1, hl1⟩ : ∃ l1, (takeL l sh 2).2.1 = l1 := ⟨_, rfl⟩
  obtain ⟨s1, hs1⟩ : ∃ s1, (takeL l sh 2).2.2 = s1 := ⟨_, rfl⟩
  have HL1 := Lib.hid hl1
  have HS1 := Lib.hid hs1
  rw [hl1, hs1] at HG
  rw [hl1] at ht2
  clear h hs hnn hn2 hl1 hs1
  go_enter Tryz.func98, Tryz.ntmps98
  go_wp2_with fail
  refine HG.out.mono ?_
  rintro e w1 ⟨rfl, hB, hM⟩
  have A1 := Lib.hid (show EyeS w1 E R l1 s1 u bad from ⟨H.out.eye.mod hM H.out.ne, hB, H.out.ne⟩)
  have A2 := Lib.hid (hM.mono (T := fun i => i = E ∨ i = R) (fun i _ e => .inr e))
  have hc1 := A1.out.eye.cell
  have hf1 := A1.out.eye.free
  have hlt1 := A1.out.eye.lt
  clear hB hM HG hc hf hlt
  by_cases h5 : 512 < n
  · have hg : decide ((512 : Int) < (n : Int)) = true := decide_eq_true (by omega)
    have H2 := Lib.hid (show EyeS ((w1.setCell ⟨E, 1, none⟩ (.int .i64 (u + (2 + (n : Int))))).setCell ⟨E, 2, none⟩ (.bool true)) E R l1 s1 (u + (2 + (n : Int))) true from ⟨(A1.out.eye.set 1 _).set 2 _, (A1.out.rd.set_far (p := ⟨E, 1, none⟩) H.out.ne _).set_far (p := ⟨E, 2, none⟩) H.out.ne _, H.out.ne⟩)
    have M0 := Lib.hid ((A2.out.setCell (p := ⟨E, 1, none⟩) (fun _ => .inl rfl) (.int .i64 (u + (2 + (n : Int))))).setCell (p := ⟨E, 2, none⟩) (fun _ => .inl rfl) (.bool true))
    have HT := Lib.hid (take_any R l1 s1 n _ H2.out.rd (by omega) (by omega))
    cases bad
    · go_wp2_with fail
      refine HT.out.mono ?_
      rintro e w2 ⟨rfl, hB, hM⟩
      have K1 := Lib.hid (show EyeA w2 E R s' by
        have e := congrArg Prod.snd HS.out
        dsimp only [txtS] at e
        subst e
        simp only [HN.out, HL1.out, HS1.out]
        exact ⟨by rw [decide_eq_true h5, show u + 2 + (n : Int) = u + (2 + (n : Int)) by omega]; exact H2.out.eye.mod hM H2.out.ne, hB, H2.out.ne⟩)
      have K2 := Lib.hid (M0.out.trans (hM.mono (fun i _ e => .inr e)))
      have HTT := Lib.hid (show (takeL l1 s1 n).1 = t by have e := congrArg Prod.fst HS.out; dsimp only [txtS] at e; simp only [HN.out, HL1.out, HS1.out] at e; exact e)
      clear hB hM H2 M0 HT hc1 hf1
      rw [HTT.out]
      go_wp2_with fail
      exact HR.out _ _ ⟨rfl, K1.out, K2.out⟩
    · go_wp2_with fail
      refine HT.out.mono ?_
      rintro e w2 ⟨rfl, hB, hM⟩
      have K1 := Lib.hid (show EyeA w2 E R s' by
        have e := congrArg Prod.snd HS.out
        dsimp only [txtS] at e
        subst e
        simp only [HN.out, HL1.out, HS1.out]
        exact ⟨by rw [show u + 2 + (n : Int) = u + (2 + (n : Int)) by omega]; exact H2.out.eye.mod hM H2.out.ne, hB, H2.out.ne⟩)
      have K2 := Lib.hid (M0.out.trans (hM.mono (fun i _ e => .inr e)))
      have HTT := Lib.hid (show (takeL l1 s1 n).1 = t by have e := congrArg Prod.fst HS.out; dsimp only [txtS] at e; simp only [HN.out, HL1.out, HS1.out] at e; exact e)
      clear hB hM H2 M0 HT hc1 hf1
      rw [HTT.out]
      go_wp2_with fail
      exact HR.out _ _ ⟨rfl, K1.out, K2.out⟩
  · have hg : decide ((512 : Int) < (n : Int)) = false := decide_eq_false (by omega)
    have H2 := Lib.hid (show EyeS ((w1.setCell ⟨E, 1, none⟩ (.int .i64 (u + (2 + (n : Int))))).setCell ⟨E, 2, none⟩ (.bool bad)) E R l1 s1 (u + (2 + (n : Int))) bad from ⟨(A1.out.eye.set 1 _).set 2 _, (A1.out.rd.set_far (p := ⟨E, 1, none⟩) H.out.ne _).set_far (p := ⟨E, 2, none⟩) H.out.ne _, H.out.ne⟩)
    have M0 := Lib.hid ((A2.out.setCell (p := ⟨E, 1, none⟩) (fun _ => .inl rfl) (.int .i64 (u + (2 + (n : Int))))).setCell (p := ⟨E, 2, none⟩) (fun _ => .inl rfl) (.bool bad))
    have HT := Lib.hid (take_any R l1 s1 n _ H2.out.rd (by omega) (by omega))
    cases bad
    · go_wp2_with fail
      refine HT.out.mono ?_
      rintro e w2 ⟨rfl, hB, hM⟩
      have K1 := Lib.hid (show EyeA w2 E R s' by
        have e := congrArg Prod.snd HS.out
        dsimp only [txtS] at e
        subst e
        simp only [HN.out, HL1.out, HS1.out]
        exact ⟨by rw [decide_eq_false h5, show u + 2 + (n : Int) = u + (2 + (n : Int)) by omega]; exact H2.out.eye.mod hM H2.out.ne, hB, H2.out.ne⟩)
      have K2 := Lib.hid (M0.out.trans (hM.mono (fun i _ e => .inr e)))
      have HTT := Lib.hid (show (takeL l1 s1 n).1 = t by have e := congrArg Prod.fst HS.out; dsimp only [txtS] at e; simp only [HN.out, HL1.out, HS1.out] at e; exact e)
      clear hB hM H2 M0 HT hc1 hf1
      rw [HTT.out]
      go_wp2_with fail
      exact HR.out _ _ ⟨rfl, K1.out, K2.out⟩
    · go_wp2_with fail
      refine HT.out.mono ?_
      rintro e w2 ⟨rfl, hB, hM⟩
      have K1 := Lib.hid (show EyeA w2 E R s' by
        have e := congrArg Prod.snd HS.out
        dsimp only [txtS] at e
        subst e
        simp only [HN.out, HL1.out, HS1.out]
        exact ⟨by rw [show u + 2 + (n : Int) = u + (2 + (n : Int)) by omega]; exact H2.out.eye.mod hM H2.out.ne, hB, H2.out.ne⟩)
      have K2 := Lib.hid (M0.out.trans (hM.mono (fun i _ e => .inr e)))
      have HTT := Lib.hid (show (takeL l1 s1 n).1 = t by have e := congrArg Prod.fst HS.out; dsimp only [txtS] at e; simp only [HN.out, HL1.out, HS1.out] at e; exact e)
      clear hB hM H2 M0 HT hc1 hf1
      rw [HTT.out]
      go_wp2_with fail
      exact HR.out _ _ ⟨rfl, K1.out, K2.out⟩
end Go.Proofs.YtdengmlidckkeaaGreatDoor
namespace Go.Proofs.YtdengmlidckkeaaGreatDoor
open Go Go.RowKit
def numsS : Nat → ES → List Int × ES
  | 0, s => ([], s)
  | n + 1, s => ((numS s).1 :: (numsS n (numS s).2).1, (numsS n (numS s).2).2)
def txtsS : Nat → ES → List (List UInt8) × ES
  | 0, s => ([], s)
  | n + 1, s => ((txtS s).1 :: (txtsS n (txtS s).2).1, (txtsS n (txtS s).2).2)
/-- The kind's byte, plain. -/
def kinS (s : ES) : Nat := (leV (takeL s.l s.sh 1).1).toNat
def hedS (s : ES) : ES := ⟨(takeL s.l s.sh 1).2.1, (takeL s.l s.sh 1).2.2, s.u + 1, s.bad⟩
/-- What an eye reads as an order, and its state behind it. -/
def ordS (s : ES) : Option OW × ES :=
  if kinS s = 0 ∨ 15 < kinS s then (none, { hedS s with bad := true })
  else (some ⟨kinS s - 1, (numsS (nN (kinS s - 1)) (hedS s)).1, (txtsS (nD (kinS s - 1)) (numsS (nN (kinS s - 1)) (hedS s)).2).1⟩, (txtsS (nD (kinS s - 1)) (numsS (nN (kinS s - 1)) (hedS s)).2).2)
def optV : Option OW → Value
  | none => .nilIface
  | some o => ordW o
theorem kinS_lt (s : ES) : kinS s < 256 ∧ ((kinS s : Nat) : Int) = leV (takeL s.l s.sh 1).1 := by
  have h1 := leV_bd (takeL s.l s.sh 1).1
  have h2 := (takeL_le s.l s.sh 1).1
  have h3 : (256 : Int) ^ (takeL s.l s.sh 1).1.length ≤ 256 := by
    have : (takeL s.l s.sh 1).1.length = 0 ∨ (takeL s.l s.sh 1).1.length = 1 := by omega
    rcases this with e | e <;> rw [e] <;> decide
  unfold kinS
  omega
theorem hed_ok {c : Nat} {s : ES} (h : s.ok (c + 1)) : (hedS s).ok c := by
  obtain ⟨h1, h2, h3⟩ := h
  have := (takeL_le s.l s.sh 1).2
  exact ⟨by show (takeL s.l s.sh 1).2.1.length ≤ _; omega, by show 0 ≤ s.u + 1; omega, by show s.u + 1 + _ ≤ _; omega⟩
theorem num_eq (s : ES) : ∃ n s', numS s = (n, s') := ⟨_, _, rfl⟩
theorem txt_eq (s : ES) : ∃ n s', txtS s = (n, s') := ⟨_, _, rfl⟩

set_option maxRecDepth 10000 in
theorem vol0 (E R : Nat) (s0 : ES) (n0 : Int) (a0 : ES) (h0 : numS s0 = (n0, a0)) (ok0 : s0.ok 1) (n1 : Int) (a1 : ES) (h1 : numS a0 = (n1, a1)) (ok1 : a0.ok 1) (w : World) (h : EyeA w E R s0) :
    Calls Tryz.prog 84 #[rptr E, .string ⟨#[99, 114, 101, 97, 116, 101]⟩] w fun e w' => e = .returned (.iface 74 (.agg #[.int .i64 n0, .int .i64 n1])) ∧ EyeA w' E R a1 ∧ Mod (fun i => i = E ∨ i = R) w w' := by
  refine opq fun Rr HR => ?_
  have C0 := Lib.hid (fun w h => num_all E R s0 a0 n0 h0 w h ok0)
  have C1 := Lib.hid (fun w h => num_all E R a0 a1 n1 h1 w h ok1)
  have K0 := Lib.hid h
  have M0 := Lib.hid (Mod.refl (fun i => i = E ∨ i = R) w)
  clear h h0 ok0 h1 ok1
  go_enter Tryz.func84, Tryz.ntmps84
  go_wp2_with fail
  refine (C0.out _ K0.out).mono ?_
  rintro e w1 ⟨rfl, q1, q2⟩
  have K1 := Lib.hid q1
  have M1 := Lib.hid (M0.out.trans q2)
  clear q1 q2 C0 K0 M0
  go_wp2_with fail
  refine (C1.out _ K1.out).mono ?_
  rintro e w2 ⟨rfl, q1, q2⟩
  have K2 := Lib.hid q1
  have M2 := Lib.hid (M1.out.trans q2)
  clear q1 q2 C1 K1 M1
  go_wp2_with fail
  exact HR.out _ _ ⟨rfl, K2.out, M2.out⟩
set_option maxRecDepth 10000 in
theorem vol1 (E R : Nat) (s0 : ES) (n0 : Int) (a0 : ES) (h0 : numS s0 = (n0, a0)) (ok0 : s0.ok 1) (w : World) (h : EyeA w E R s0) :
    Calls Tryz.prog 84 #[rptr E, .string ⟨#[100, 101, 108, 101, 116, 101]⟩] w fun e w' => e = .returned (.iface 79 (.agg #[.int .i64 n0])) ∧ EyeA w' E R a0 ∧ Mod (fun i => i = E ∨ i = R) w w' := by
  refine opq fun Rr HR => ?_
  have C0 := Lib.hid (fun w h => num_all E R s0 a0 n0 h0 w h ok0)
  have K0 := Lib.hid h
  have M0 := Lib.hid (Mod.refl (fun i => i = E ∨ i = R) w)
  clear h h0 ok0
  go_enter Tryz.func84, Tryz.ntmps84
  go_wp2_with fail
  refine (C0.out _ K0.out).mono ?_
  rintro e w1 ⟨rfl, q1, q2⟩
  have K1 := Lib.hid q1
  have M1 := Lib.hid (M0.out.trans q2)
  clear q1 q2 C0 K0 M0
  go_wp2_with fail
  exact HR.out _ _ ⟨rfl, K1.out, M1.out⟩
set_option maxRecDepth 10000 in
theorem vol2 (E R : Nat) (s0 : ES) (n0 : Int) (a0 : ES) (h0 : numS s0 = (n0, a0)) (ok0 : s0.ok 1) (n1 : Int) (a1 : ES) (h1 : numS a0 = (n1, a1)) (ok1 : a0.ok 1) (w : World) (h : EyeA w E R s0) :
    Calls Tryz.prog 84 #[rptr E, .string ⟨#[115, 110, 97, 112]⟩] w fun e w' => e = .returned (.iface 81 (.agg #[.int .i64 n0, .int .i64 n1])) ∧ EyeA w' E R a1 ∧ Mod (fun i => i = E ∨ i = R) w w' := by
  refine opq fun Rr HR => ?_
  have C0 := Lib.hid (fun w h => num_all E R s0 a0 n0 h0 w h ok0)
  have C1 := Lib.hid (fun w h => num_all E R a0 a1 n1 h1 w h ok1)
  have K0 := Lib.hid h
  have M0 := Lib.hid (Mod.refl (fun i => i = E ∨ i = R) w)
  clear h h0 ok0 h1 ok1
  go_enter Tryz.func84, Tryz.ntmps84
  go_wp2_with fail
  refine (C0.out _ K0.out).mono ?_
  rintro e w1 ⟨rfl, q1, q2⟩
  have K1 := Lib.hid q1
  have M1 := Lib.hid (M0.out.trans q2)
  clear q1 q2 C0 K0 M0
  go_wp2_with fail
  refine (C1.out _ K1.out).mono ?_
  rintro e w2 ⟨rfl, q1, q2⟩
  have K2 := Lib.hid q1
  have M2 := Lib.hid (M1.out.trans q2)
  clear q1 q2 C1 K1 M1
  go_wp2_with fail
  exact HR.out _ _ ⟨rfl, K2.out, M2.out⟩
set_option maxRecDepth 10000 in
theorem vol3 (E R : Nat) (s0 : ES) (n0 : Int) (a0 : ES) (h0 : numS s0 = (n0, a0)) (ok0 : s0.ok 1) (n1 : Int) (a1 : ES) (h1 : numS a0 = (n1, a1)) (ok1 : a0.ok 1) (w : World) (h : EyeA w E R s0) :
    Calls Tryz.prog 84 #[rptr E, .string ⟨#[114, 101, 115, 105, 122, 101]⟩] w fun e w' => e = .returned (.iface 82 (.agg #[.int .i64 n0, .int .i64 n1])) ∧ EyeA w' E R a1 ∧ Mod (fun i => i = E ∨ i = R) w w' := by
  refine opq fun Rr HR => ?_
  have C0 := Lib.hid (fun w h => num_all E R s0 a0 n0 h0 w h ok0)
  have C1 := Lib.hid (fun w h => num_all E R a0 a1 n1 h1 w h ok1)
  have K0 := Lib.hid h
  have M0 := Lib.hid (Mod.refl (fun i => i = E ∨ i = R) w)
  clear h h0 ok0 h1 ok1
  go_enter Tryz.func84, Tryz.ntmps84
  go_wp2_with fail
  refine (C0.out _ K0.out).mono ?_
  rintro e w1 ⟨rfl, q1, q2⟩
  have K1 := Lib.hid q1
  have M1 := Lib.hid (M0.out.trans q2)
  clear q1 q2 C0 K0 M0
  go_wp2_with fail
  refine (C1.out _ K1.out).mono ?_
  rintro e w2 ⟨rfl, q1, q2⟩
  have K2 := Lib.hid q1
  have M2 := Lib.hid (M1.out.trans q2)
  clear q1 q2 C1 K1 M1
  go_wp2_with fail
  exact HR.out _ _ ⟨rfl, K2.out, M2.out⟩
set_option maxRecDepth 10000 in
theorem vol4 (E R : Nat) (s0 : ES) (n0 : Int) (a0 : ES) (h0 : numS s0 = (n0, a0)) (ok0 : s0.ok 1) (w : World) (h : EyeA w E R s0) :
    Calls Tryz.prog 84 #[rptr E, .string ⟨#[112, 105, 110]⟩] w fun e w' => e = .returned (.iface 83 (.agg #[.int .i64 n0])) ∧ EyeA w' E R a0 ∧ Mod (fun i => i = E ∨ i = R) w w' := by
  refine opq fun Rr HR => ?_
  have C0 := Lib.hid (fun w h => num_all E R s0 a0 n0 h0 w h ok0)
  have K0 := Lib.hid h
  have M0 := Lib.hid (Mod.refl (fun i => i = E ∨ i = R) w)
  clear h h0 ok0
  go_enter Tryz.func84, Tryz.ntmps84
  go_wp2_with fail
  refine (C0.out _ K0.out).mono ?_
  rintro e w1 ⟨rfl, q1, q2⟩
  have K1 := Lib.hid q1
  have M1 := Lib.hid (M0.out.trans q2)
  clear q1 q2 C0 K0 M0
  go_wp2_with fail
  exact HR.out _ _ ⟨rfl, K1.out, M1.out⟩
set_option maxRecDepth 10000 in
theorem vol5 (E R : Nat) (s0 : ES) (n0 : Int) (a0 : ES) (h0 : numS s0 = (n0, a0)) (ok0 : s0.ok 1) (w : World) (h : EyeA w E R s0) :
    Calls Tryz.prog 84 #[rptr E, .string ⟨#[102, 114, 101, 101]⟩] w fun e w' => e = .returned (.iface 84 (.agg #[.int .i64 n0])) ∧ EyeA w' E R a0 ∧ Mod (fun i => i = E ∨ i = R) w w' := by
  refine opq fun Rr HR => ?_
  have C0 := Lib.hid (fun w h => num_all E R s0 a0 n0 h0 w h ok0)
  have K0 := Lib.hid h
  have M0 := Lib.hid (Mod.refl (fun i => i = E ∨ i = R) w)
  clear h h0 ok0
  go_enter Tryz.func84, Tryz.ntmps84
  go_wp2_with fail
  refine (C0.out _ K0.out).mono ?_
  rintro e w1 ⟨rfl, q1, q2⟩
  have K1 := Lib.hid q1
  have M1 := Lib.hid (M0.out.trans q2)
  clear q1 q2 C0 K0 M0
  go_wp2_with fail
  exact HR.out _ _ ⟨rfl, K1.out, M1.out⟩
set_option maxRecDepth 10000 in
theorem sec6 (E R : Nat) (s0 : ES) (n0 : Int) (a0 : ES) (h0 : numS s0 = (n0, a0)) (ok0 : s0.ok 1) (n1 : Int) (a1 : ES) (h1 : numS a0 = (n1, a1)) (ok1 : a0.ok 1) (n2 : Int) (a2 : ES) (h2 : numS a1 = (n2, a2)) (ok2 : a1.ok 1) (w : World) (h : EyeA w E R s0) :
    Calls Tryz.prog 81 #[rptr E, .string ⟨#[114, 101, 97, 100]⟩] w fun e w' => e = .returned (.iface 86 (.agg #[.int .i64 n0, .int .i64 n1, .int .i64 n2])) ∧ EyeA w' E R a2 ∧ Mod (fun i => i = E ∨ i = R) w w' := by
  refine opq fun Rr HR => ?_
  have C0 := Lib.hid (fun w h => num_all E R s0 a0 n0 h0 w h ok0)
  have C1 := Lib.hid (fun w h => num_all E R a0 a1 n1 h1 w h ok1)
  have C2 := Lib.hid (fun w h => num_all E R a1 a2 n2 h2 w h ok2)
  have K0 := Lib.hid h
  have M0 := Lib.hid (Mod.refl (fun i => i = E ∨ i = R) w)
  clear h h0 ok0 h1 ok1 h2 ok2
  go_enter Tryz.func81, Tryz.ntmps81
  go_wp2_with fail
  refine (C0.out _ K0.out).mono ?_
  rintro e w1 ⟨rfl, q1, q2⟩
  have K1 := Lib.hid q1
  have M1 := Lib.hid (M0.out.trans q2)
  clear q1 q2 C0 K0 M0
  go_wp2_with fail
  refine (C1.out _ K1.out).mono ?_
  rintro e w2 ⟨rfl, q1, q2⟩
  have K2 := Lib.hid q1
  have M2 := Lib.hid (M1.out.trans q2)
  clear q1 q2 C1 K1 M1
  go_wp2_with fail
  refine (C2.out _ K2.out).mono ?_
  rintro e w3 ⟨rfl, q1, q2⟩
  have K3 := Lib.hid q1
  have M3 := Lib.hid (M2.out.trans q2)
  clear q1 q2 C2 K2 M2
  go_wp2_with fail
  exact HR.out _ _ ⟨rfl, K3.out, M3.out⟩
set_option maxRecDepth 10000 in
theorem sec7 (E R : Nat) (s0 : ES) (n0 : Int) (a0 : ES) (h0 : numS s0 = (n0, a0)) (ok0 : s0.ok 1) (n1 : Int) (a1 : ES) (h1 : numS a0 = (n1, a1)) (ok1 : a0.ok 1) (t0 : List UInt8) (a2 : ES) (h2 : txtS a1 = (t0, a2)) (ok2 : a1.ok 1) (w : World) (h : EyeA w E R s0) :
    Calls Tryz.prog 81 #[rptr E, .string ⟨#[119, 114, 105, 116, 101]⟩] w fun e w' => e = .returned (.iface 66 (.agg #[.int .i64 n0, .int .i64 n1, .string ⟨t0.toArray⟩])) ∧ EyeA w' E R a2 ∧ Mod (fun i => i = E ∨ i = R) w w' := by
  refine opq fun Rr HR => ?_
  have C0 := Lib.hid (fun w h => num_all E R s0 a0 n0 h0 w h ok0)
  have C1 := Lib.hid (fun w h => num_all E R a0 a1 n1 h1 w h ok1)
  have C2 := Lib.hid (fun w h => txt_all E R a1 a2 t0 h2 w h ok2)
  have K0 := Lib.hid h
  have M0 := Lib.hid (Mod.refl (fun i => i = E ∨ i = R) w)
  clear h h0 ok0 h1 ok1 h2 ok2
  go_enter Tryz.func81, Tryz.ntmps81
  go_wp2_with fail
  refine (C0.out _ K0.out).mono ?_
  rintro e w1 ⟨rfl, q1, q2⟩
  have K1 := Lib.hid q1
  have M1 := Lib.hid (M0.out.trans q2)
  clear q1 q2 C0 K0 M0
  go_wp2_with fail
  refine (C1.out _ K1.out).mono ?_
  rintro e w2 ⟨rfl, q1, q2⟩
  have K2 := Lib.hid q1
  have M2 := Lib.hid (M1.out.trans q2)
  clear q1 q2 C1 K1 M1
  go_wp2_with fail
  refine (C2.out _ K2.out).mono ?_
  rintro e w3 ⟨rfl, q1, q2⟩
  have K3 := Lib.hid q1
  have M3 := Lib.hid (M2.out.trans q2)
  clear q1 q2 C2 K2 M2
  go_wp2_with fail
  exact HR.out _ _ ⟨rfl, K3.out, M3.out⟩
set_option maxRecDepth 10000 in
theorem sec8 (E R : Nat) (s0 : ES) (n0 : Int) (a0 : ES) (h0 : numS s0 = (n0, a0)) (ok0 : s0.ok 1) (n1 : Int) (a1 : ES) (h1 : numS a0 = (n1, a1)) (ok1 : a0.ok 1) (n2 : Int) (a2 : ES) (h2 : numS a1 = (n2, a2)) (ok2 : a1.ok 1) (w : World) (h : EyeA w E R s0) :
    Calls Tryz.prog 81 #[rptr E, .string ⟨#[100, 105, 115, 99, 97, 114, 100]⟩] w fun e w' => e = .returned (.iface 87 (.agg #[.int .i64 n0, .int .i64 n1, .int .i64 n2])) ∧ EyeA w' E R a2 ∧ Mod (fun i => i = E ∨ i = R) w w' := by
  refine opq fun Rr HR => ?_
  have C0 := Lib.hid (fun w h => num_all E R s0 a0 n0 h0 w h ok0)
  have C1 := Lib.hid (fun w h => num_all E R a0 a1 n1 h1 w h ok1)
  have C2 := Lib.hid (fun w h => num_all E R a1 a2 n2 h2 w h ok2)
  have K0 := Lib.hid h
  have M0 := Lib.hid (Mod.refl (fun i => i = E ∨ i = R) w)
  clear h h0 ok0 h1 ok1 h2 ok2
  go_enter Tryz.func81, Tryz.ntmps81
  go_wp2_with fail
  refine (C0.out _ K0.out).mono ?_
  rintro e w1 ⟨rfl, q1, q2⟩
  have K1 := Lib.hid q1
  have M1 := Lib.hid (M0.out.trans q2)
  clear q1 q2 C0 K0 M0
  go_wp2_with fail
  refine (C1.out _ K1.out).mono ?_
  rintro e w2 ⟨rfl, q1, q2⟩
  have K2 := Lib.hid q1
  have M2 := Lib.hid (M1.out.trans q2)
  clear q1 q2 C1 K1 M1
  go_wp2_with fail
  refine (C2.out _ K2.out).mono ?_
  rintro e w3 ⟨rfl, q1, q2⟩
  have K3 := Lib.hid q1
  have M3 := Lib.hid (M2.out.trans q2)
  clear q1 q2 C2 K2 M2
  go_wp2_with fail
  exact HR.out _ _ ⟨rfl, K3.out, M3.out⟩
set_option maxRecDepth 10000 in
theorem cra14 (E R : Nat) (s0 : ES) (t0 : List UInt8) (a0 : ES) (h0 : txtS s0 = (t0, a0)) (ok0 : s0.ok 1) (t1 : List UInt8) (a1 : ES) (h1 : txtS a0 = (t1, a1)) (ok1 : a0.ok 1) (t2 : List UInt8) (a2 : ES) (h2 : txtS a1 = (t2, a2)) (ok2 : a1.ok 1) (w : World) (h : EyeA w E R s0) :
    Calls Tryz.prog 83 #[rptr E] w fun e w' => e = .returned (.iface 95 (.agg #[.string ⟨t0.toArray⟩, .string ⟨t1.toArray⟩, .string ⟨t2.toArray⟩])) ∧ EyeA w' E R a2 ∧ Mod (fun i => i = E ∨ i = R) w w' := by
  refine opq fun Rr HR => ?_
  have C0 := Lib.hid (fun w h => txt_all E R s0 a0 t0 h0 w h ok0)
  have C1 := Lib.hid (fun w h => txt_all E R a0 a1 t1 h1 w h ok1)
  have C2 := Lib.hid (fun w h => txt_all E R a1 a2 t2 h2 w h ok2)
  have K0 := Lib.hid h
  have M0 := Lib.hid (Mod.refl (fun i => i = E ∨ i = R) w)
  clear h h0 ok0 h1 ok1 h2 ok2
  go_enter Tryz.func83, Tryz.ntmps83
  go_wp2_with fail
  refine (C0.out _ K0.out).mono ?_
  rintro e w1 ⟨rfl, q1, q2⟩
  have K1 := Lib.hid q1
  have M1 := Lib.hid (M0.out.trans q2)
  clear q1 q2 C0 K0 M0
  go_wp2_with fail
  refine (C1.out _ K1.out).mono ?_
  rintro e w2 ⟨rfl, q1, q2⟩
  have K2 := Lib.hid q1
  have M2 := Lib.hid (M1.out.trans q2)
  clear q1 q2 C1 K1 M1
  go_wp2_with fail
  refine (C2.out _ K2.out).mono ?_
  rintro e w3 ⟨rfl, q1, q2⟩
  have K3 := Lib.hid q1
  have M3 := Lib.hid (M2.out.trans q2)
  clear q1 q2 C2 K2 M2
  go_wp2_with fail
  exact HR.out _ _ ⟨rfl, K3.out, M3.out⟩
set_option maxRecDepth 10000 in
set_option maxHeartbeats 1000000 in
theorem ordK0 (E R : Nat) (s : ES) (hk : kinS s = 1) (w : World) (h : EyeA w E R s) (ok : s.ok 6) :
    Calls Tryz.prog 54 #[rptr E] w fun e w' => e = .returned (optV (ordS s).1) ∧ EyeA w' E R (ordS s).2 ∧ Mod (fun i => i = E ∨ i = R) w w' := by
  refine opq fun Rr HR => ?_
  have hkl := (kinS_lt s).2
  obtain ⟨s0, hs0⟩ : ∃ s0, hedS s = s0 := ⟨_, rfl⟩
  have HS0 := Lib.hid hs0
  have ok5 : s0.ok 5 := by rw [← hs0]; exact hed_ok ok
  obtain ⟨n0, a0, hn0⟩ := num_eq s0
  have ok0 : a0.ok 4 := by have := num_ok (c := 4) (s := s0) ok5; rw [hn0] at this; exact this
  obtain ⟨n1, a1, hn1⟩ := num_eq a0
  have ok1 : a1.ok 3 := by have := num_ok (c := 3) (s := a0) ok0; rw [hn1] at this; exact this
  have e0 : ordS s = (some ⟨0, [n0, n1], []⟩, a1) := by
    unfold ordS
    rw [hk, if_neg (by decide), hs0]
    simp only [show 1 - 1 = 0 from rfl, show nN 0 = 2 from rfl, show nD 0 = 0 from rfl, numsS, txtsS, hn0, hn1]
  rw [e0] at HR
  have HV := Lib.hid (show optV (some ⟨0, [n0, n1], []⟩) = .iface 74 (.agg #[.int .i64 n0, .int .i64 n1]) from rfl)
  dsimp only at HR
  rw [HV.out] at HR
  have C := Lib.hid (fun w h => vol0 E R s0 n0 a0 hn0 (ok_less ok5 (by decide)) n1 a1 hn1 (ok_less ok0 (by decide)) w h)
  obtain ⟨l, sh, u, bad⟩ := s
  obtain ⟨hl, hu0, hu⟩ := ok
  dsimp only at hl hu0 hu h hkl
  rw [hk] at hkl
  clear hs0 ok5 e0 HV hk hn0 ok0 hn1 ok1
  have hc := h.eye.cell
  have hf := h.eye.free
  have hlt := h.eye.lt
  have H := Lib.hid h
  have hE : IntKind.i64.wrap (u + 1) = u + 1 := IntWalk.i64_in _ (by omega)
  clear h
  have HKL := Lib.hid hkl
  clear hkl
  go_enter Tryz.func54, Tryz.ntmps54
  go_wp2_with fail
  have H2 := Lib.hid (show EyeS (w.setCell ⟨E, 1, none⟩ (.int .i64 (u + 1))) E R l sh (u + 1) bad from ⟨H.out.eye.set 1 _, H.out.rd.set_far (p := ⟨E, 1, none⟩) H.out.ne _, H.out.ne⟩)
  have M0 := Lib.hid ((Mod.refl (fun i => i = E ∨ i = R) w).setCell (p := ⟨E, 1, none⟩) (fun _ => .inl rfl) (.int .i64 (u + 1)))
  have HG := Lib.hid (get_any R l sh 1 1 (by decide) _ H2.out.rd (by omega))
  rw [← HKL.out] at HG
  refine HG.out.mono ?_
  rintro e w1 ⟨rfl, hB, hM⟩
  have K1 := Lib.hid (show EyeA w1 E R s0 by
    have e := HS0.out
    dsimp only [hedS] at e
    subst e
    exact ⟨H2.out.eye.mod hM H2.out.ne, hB, H2.out.ne⟩)
  have K2 := Lib.hid (M0.out.trans (hM.mono (fun i _ e => .inr e)))
  clear hB hM H2 M0 HG hc hf HKL HS0 H
  go_wp2_with fail
  refine (words_any _).mono ?_
  rintro e w2 ⟨g, rfl, _, M2⟩
  have K3 := Lib.hid (K1.out.same M2)
  have K4 := Lib.hid (K2.out.same M2)
  clear M2 K1 K2
  go_wp2_with fail
  refine (words_any _).mono ?_
  rintro e w3 ⟨g3, rfl, hB3, M3⟩
  have K5 := Lib.hid (K3.out.same M3)
  have K6 := Lib.hid (K4.out.same M3)
  have hcw := hB3.at_ (i := 0) (.string ⟨#[99, 114, 101, 97, 116, 101]⟩) rfl
  have hlw := hB3.lt
  clear M3 K3 K4 hB3
  go_wp2_with fail
  refine (C.out _ K5.out).mono ?_
  rintro e w4 ⟨rfl, h1, h2⟩
  have K7 := Lib.hid h1
  have K8 := Lib.hid (K6.out.trans h2)
  clear h1 h2 C K5 K6
  go_wp2_with fail
  exact HR.out _ _ ⟨rfl, K7.out, K8.out⟩
set_option maxRecDepth 10000 in
set_option maxHeartbeats 1000000 in
theorem ordK1 (E R : Nat) (s : ES) (hk : kinS s = 2) (w : World) (h : EyeA w E R s) (ok : s.ok 6) :
    Calls Tryz.prog 54 #[rptr E] w fun e w' => e = .returned (optV (ordS s).1) ∧ EyeA w' E R (ordS s).2 ∧ Mod (fun i => i = E ∨ i = R) w w' := by
  refine opq fun Rr HR => ?_
  have hkl := (kinS_lt s).2
  obtain ⟨s0, hs0⟩ : ∃ s0, hedS s = s0 := ⟨_, rfl⟩
  have HS0 := Lib.hid hs0
  have ok5 : s0.ok 5 := by rw [← hs0]; exact hed_ok ok
  obtain ⟨n0, a0, hn0⟩ := num_eq s0
  have ok0 : a0.ok 4 := by have := num_ok (c := 4) (s := s0) ok5; rw [hn0] at this; exact this
  have e0 : ordS s = (some ⟨1, [n0], []⟩, a0) := by
    unfold ordS
    rw [hk, if_neg (by decide), hs0]
    simp only [show 2 - 1 = 1 from rfl, show nN 1 = 1 from rfl, show nD 1 = 0 from rfl, numsS, txtsS, hn0]
  rw [e0] at HR
  have HV := Lib.hid (show optV (some ⟨1, [n0], []⟩) = .iface 79 (.agg #[.int .i64 n0]) from rfl)
  dsimp only at HR
  rw [HV.out] at HR
  have C := Lib.hid (fun w h => vol1 E R s0 n0 a0 hn0 (ok_less ok5 (by decide)) w h)
  obtain ⟨l, sh, u, bad⟩ := s
  obtain ⟨hl, hu0, hu⟩ := ok
  dsimp only at hl hu0 hu h hkl
  rw [hk] at hkl
  clear hs0 ok5 e0 HV hk hn0 ok0
  have hc := h.eye.cell
  have hf := h.eye.free
  have hlt := h.eye.lt
  have H := Lib.hid h
  have hE : IntKind.i64.wrap (u + 1) = u + 1 := IntWalk.i64_in _ (by omega)
  clear h
  have HKL := Lib.hid hkl
  clear hkl
  go_enter Tryz.func54, Tryz.ntmps54
  go_wp2_with fail
  have H2 := Lib.hid (show EyeS (w.setCell ⟨E, 1, none⟩ (.int .i64 (u + 1))) E R l sh (u + 1) bad from ⟨H.out.eye.set 1 _, H.out.rd.set_far (p := ⟨E, 1, none⟩) H.out.ne _, H.out.ne⟩)
  have M0 := Lib.hid ((Mod.refl (fun i => i = E ∨ i = R) w).setCell (p := ⟨E, 1, none⟩) (fun _ => .inl rfl) (.int .i64 (u + 1)))
  have HG := Lib.hid (get_any R l sh 1 1 (by decide) _ H2.out.rd (by omega))
  rw [← HKL.out] at HG
  refine HG.out.mono ?_
  rintro e w1 ⟨rfl, hB, hM⟩
  have K1 := Lib.hid (show EyeA w1 E R s0 by
    have e := HS0.out
    dsimp only [hedS] at e
    subst e
    exact ⟨H2.out.eye.mod hM H2.out.ne, hB, H2.out.ne⟩)
  have K2 := Lib.hid (M0.out.trans (hM.mono (fun i _ e => .inr e)))
  clear hB hM H2 M0 HG hc hf HKL HS0 H
  go_wp2_with fail
  refine (words_any _).mono ?_
  rintro e w2 ⟨g, rfl, _, M2⟩
  have K3 := Lib.hid (K1.out.same M2)
  have K4 := Lib.hid (K2.out.same M2)
  clear M2 K1 K2
  go_wp2_with fail
  refine (words_any _).mono ?_
  rintro e w3 ⟨g3, rfl, hB3, M3⟩
  have K5 := Lib.hid (K3.out.same M3)
  have K6 := Lib.hid (K4.out.same M3)
  have hcw := hB3.at_ (i := 1) (.string ⟨#[100, 101, 108, 101, 116, 101]⟩) rfl
  have hlw := hB3.lt
  clear M3 K3 K4 hB3
  go_wp2_with fail
  refine (C.out _ K5.out).mono ?_
  rintro e w4 ⟨rfl, h1, h2⟩
  have K7 := Lib.hid h1
  have K8 := Lib.hid (K6.out.trans h2)
  clear h1 h2 C K5 K6
  go_wp2_with fail
  exact HR.out _ _ ⟨rfl, K7.out, K8.out⟩
set_option maxRecDepth 10000 in
set_option maxHeartbeats 1000000 in
theorem ordK2 (E R : Nat) (s : ES) (hk : kinS s = 3) (w : World) (h : EyeA w E R s) (ok : s.ok 6) :
    Calls Tryz.prog 54 #[rptr E] w fun e w' => e = .returned (optV (ordS s).1) ∧ EyeA w' E R (ordS s).2 ∧ Mod (fun i => i = E ∨ i = R) w w' := by
  refine opq fun Rr HR => ?_
  have hkl := (kinS_lt s).2
  obtain ⟨s0, hs0⟩ : ∃ s0, hedS s = s0 := ⟨_, rfl⟩
  have HS0 := Lib.hid hs0
  have ok5 : s0.ok 5 := by rw [← hs0]; exact hed_ok ok
  obtain ⟨n0, a0, hn0⟩ := num_eq s0
  have ok0 : a0.ok 4 := by have := num_ok (c := 4) (s := s0) ok5; rw [hn0] at this; exact this
  obtain ⟨n1, a1, hn1⟩ := num_eq a0
  have ok1 : a1.ok 3 := by have := num_ok (c := 3) (s := a0) ok0; rw [hn1] at this; exact this
  have e0 : ordS s = (some ⟨2, [n0, n1], []⟩, a1) := by
    unfold ordS
    rw [hk, if_neg (by decide), hs0]
    simp only [show 3 - 1 = 2 from rfl, show nN 2 = 2 from rfl, show nD 2 = 0 from rfl, numsS, txtsS, hn0, hn1]
  rw [e0] at HR
  have HV := Lib.hid (show optV (some ⟨2, [n0, n1], []⟩) = .iface 81 (.agg #[.int .i64 n0, .int .i64 n1]) from rfl)
  dsimp only at HR
  rw [HV.out] at HR
  have C := Lib.hid (fun w h => vol2 E R s0 n0 a0 hn0 (ok_less ok5 (by decide)) n1 a1 hn1 (ok_less ok0 (by decide)) w h)
  obtain ⟨l, sh, u, bad⟩ := s
  obtain ⟨hl, hu0, hu⟩ := ok
  dsimp only at hl hu0 hu h hkl
  rw [hk] at hkl
  clear hs0 ok5 e0 HV hk hn0 ok0 hn1 ok1
  have hc := h.eye.cell
  have hf := h.eye.free
  have hlt := h.eye.lt
  have H := Lib.hid h
  have hE : IntKind.i64.wrap (u + 1) = u + 1 := IntWalk.i64_in _ (by omega)
  clear h
  have HKL := Lib.hid hkl
  clear hkl
  go_enter Tryz.func54, Tryz.ntmps54
  go_wp2_with fail
  have H2 := Lib.hid (show EyeS (w.setCell ⟨E, 1, none⟩ (.int .i64 (u + 1))) E R l sh (u + 1) bad from ⟨H.out.eye.set 1 _, H.out.rd.set_far (p := ⟨E, 1, none⟩) H.out.ne _, H.out.ne⟩)
  have M0 := Lib.hid ((Mod.refl (fun i => i = E ∨ i = R) w).setCell (p := ⟨E, 1, none⟩) (fun _ => .inl rfl) (.int .i64 (u + 1)))
  have HG := Lib.hid (get_any R l sh 1 1 (by decide) _ H2.out.rd (by omega))
  rw [← HKL.out] at HG
  refine HG.out.mono ?_
  rintro e w1 ⟨rfl, hB, hM⟩
  have K1 := Lib.hid (show EyeA w1 E R s0 by
    have e := HS0.out
    dsimp only [hedS] at e
    subst e
    exact ⟨H2.out.eye.mod hM H2.out.ne, hB, H2.out.ne⟩)
  have K2 := Lib.hid (M0.out.trans (hM.mono (fun i _ e => .inr e)))
  clear hB hM H2 M0 HG hc hf HKL HS0 H
  go_wp2_with fail
  refine (words_any _).mono ?_
  rintro e w2 ⟨g, rfl, _, M2⟩
  have K3 := Lib.hid (K1.out.same M2)
  have K4 := Lib.hid (K2.out.same M2)
  clear M2 K1 K2
  go_wp2_with fail
  refine (words_any _).mono ?_
  rintro e w3 ⟨g3, rfl, hB3, M3⟩
  have K5 := Lib.hid (K3.out.same M3)
  have K6 := Lib.hid (K4.out.same M3)
  have hcw := hB3.at_ (i := 2) (.string ⟨#[115, 110, 97, 112]⟩) rfl
  have hlw := hB3.lt
  clear M3 K3 K4 hB3
  go_wp2_with fail
  refine (C.out _ K5.out).mono ?_
  rintro e w4 ⟨rfl, h1, h2⟩
  have K7 := Lib.hid h1
  have K8 := Lib.hid (K6.out.trans h2)
  clear h1 h2 C K5 K6
  go_wp2_with fail
  exact HR.out _ _ ⟨rfl, K7.out, K8.out⟩
set_option maxRecDepth 10000 in
set_option maxHeartbeats 1000000 in
theorem ordK3 (E R : Nat) (s : ES) (hk : kinS s = 4) (w : World) (h : EyeA w E R s) (ok : s.ok 6) :
    Calls Tryz.prog 54 #[rptr E] w fun e w' => e = .returned (optV (ordS s).1) ∧ EyeA w' E R (ordS s).2 ∧ Mod (fun i => i = E ∨ i = R) w w' := by
  refine opq fun Rr HR => ?_
  have hkl := (kinS_lt s).2
  obtain ⟨s0, hs0⟩ : ∃ s0, hedS s = s0 := ⟨_, rfl⟩
  have HS0 := Lib.hid hs0
  have ok5 : s0.ok 5 := by rw [← hs0]; exact hed_ok ok
  obtain ⟨n0, a0, hn0⟩ := num_eq s0
  have ok0 : a0.ok 4 := by have := num_ok (c := 4) (s := s0) ok5; rw [hn0] at this; exact this
  obtain ⟨n1, a1, hn1⟩ := num_eq a0
  have ok1 : a1.ok 3 := by have := num_ok (c := 3) (s := a0) ok0; rw [hn1] at this; exact this
  have e0 : ordS s = (some ⟨3, [n0, n1], []⟩, a1) := by
    unfold ordS
    rw [hk, if_neg (by decide), hs0]
    simp only [show 4 - 1 = 3 from rfl, show nN 3 = 2 from rfl, show nD 3 = 0 from rfl, numsS, txtsS, hn0, hn1]
  rw [e0] at HR
  have HV := Lib.hid (show optV (some ⟨3, [n0, n1], []⟩) = .iface 82 (.agg #[.int .i64 n0, .int .i64 n1]) from rfl)
  dsimp only at HR
  rw [HV.out] at HR
  have C := Lib.hid (fun w h => vol3 E R s0 n0 a0 hn0 (ok_less ok5 (by decide)) n1 a1 hn1 (ok_less ok0 (by decide)) w h)
  obtain ⟨l, sh, u, bad⟩ := s
  obtain ⟨hl, hu0, hu⟩ := ok
  dsimp only at hl hu0 hu h hkl
  rw [hk] at hkl
  clear hs0 ok5 e0 HV hk hn0 ok0 hn1 ok1
  have hc := h.eye.cell
  have hf := h.eye.free
  have hlt := h.eye.lt
  have H := Lib.hid h
  have hE : IntKind.i64.wrap (u + 1) = u + 1 := IntWalk.i64_in _ (by omega)
  clear h
  have HKL := Lib.hid hkl
  clear hkl
  go_enter Tryz.func54, Tryz.ntmps54
  go_wp2_with fail
  have H2 := Lib.hid (show EyeS (w.setCell ⟨E, 1, none⟩ (.int .i64 (u + 1))) E R l sh (u + 1) bad from ⟨H.out.eye.set 1 _, H.out.rd.set_far (p := ⟨E, 1, none⟩) H.out.ne _, H.out.ne⟩)
  have M0 := Lib.hid ((Mod.refl (fun i => i = E ∨ i = R) w).setCell (p := ⟨E, 1, none⟩) (fun _ => .inl rfl) (.int .i64 (u + 1)))
  have HG := Lib.hid (get_any R l sh 1 1 (by decide) _ H2.out.rd (by omega))
  rw [← HKL.out] at HG
  refine HG.out.mono ?_
  rintro e w1 ⟨rfl, hB, hM⟩
  have K1 := Lib.hid (show EyeA w1 E R s0 by
    have e := HS0.out
    dsimp only [hedS] at e
    subst e
    exact ⟨H2.out.eye.mod hM H2.out.ne, hB, H2.out.ne⟩)
  have K2 := Lib.hid (M0.out.trans (hM.mono (fun i _ e => .inr e)))
  clear hB hM H2 M0 HG hc hf HKL HS0 H
  go_wp2_with fail
  refine (words_any _).mono ?_
  rintro e w2 ⟨g, rfl, _, M2⟩
  have K3 := Lib.hid (K1.out.same M2)
  have K4 := Lib.hid (K2.out.same M2)
  clear M2 K1 K2
  go_wp2_with fail
  refine (words_any _).mono ?_
  rintro e w3 ⟨g3, rfl, hB3, M3⟩
  have K5 := Lib.hid (K3.out.same M3)
  have K6 := Lib.hid (K4.out.same M3)
  have hcw := hB3.at_ (i := 3) (.string ⟨#[114, 101, 115, 105, 122, 101]⟩) rfl
  have hlw := hB3.lt
  clear M3 K3 K4 hB3
  go_wp2_with fail
  refine (C.out _ K5.out).mono ?_
  rintro e w4 ⟨rfl, h1, h2⟩
  have K7 := Lib.hid h1
  have K8 := Lib.hid (K6.out.trans h2)
  clear h1 h2 C K5 K6
  go_wp2_with fail
  exact HR.out _ _ ⟨rfl, K7.out, K8.out⟩
set_option maxRecDepth 10000 in
set_option maxHeartbeats 1000000 in
theorem ordK4 (E R : Nat) (s : ES) (hk : kinS s = 5) (w : World) (h : EyeA w E R s) (ok : s.ok 6) :
    Calls Tryz.prog 54 #[rptr E] w fun e w' => e = .returned (optV (ordS s).1) ∧ EyeA w' E R (ordS s).2 ∧ Mod (fun i => i = E ∨ i = R) w w' := by
  refine opq fun Rr HR => ?_
  have hkl := (kinS_lt s).2
  obtain ⟨s0, hs0⟩ : ∃ s0, hedS s = s0 := ⟨_, rfl⟩
  have HS0 := Lib.hid hs0
  have ok5 : s0.ok 5 := by rw [← hs0]; exact hed_ok ok
  obtain ⟨n0, a0, hn0⟩ := num_eq s0
  have ok0 : a0.ok 4 := by have := num_ok (c := 4) (s := s0) ok5; rw [hn0] at this; exact this
  have e0 : ordS s = (some ⟨4, [n0], []⟩, a0) := by
    unfold ordS
    rw [hk, if_neg (by decide), hs0]
    simp only [show 5 - 1 = 4 from rfl, show nN 4 = 1 from rfl, show nD 4 = 0 from rfl, numsS, txtsS, hn0]
  rw [e0] at HR
  have HV := Lib.hid (show optV (some ⟨4, [n0], []⟩) = .iface 83 (.agg #[.int .i64 n0]) from rfl)
  dsimp only at HR
  rw [HV.out] at HR
  have C := Lib.hid (fun w h => vol4 E R s0 n0 a0 hn0 (ok_less ok5 (by decide)) w h)
  obtain ⟨l, sh, u, bad⟩ := s
  obtain ⟨hl, hu0, hu⟩ := ok
  dsimp only at hl hu0 hu h hkl
  rw [hk] at hkl
  clear hs0 ok5 e0 HV hk hn0 ok0
  have hc := h.eye.cell
  have hf := h.eye.free
  have hlt := h.eye.lt
  have H := Lib.hid h
  have hE : IntKind.i64.wrap (u + 1) = u + 1 := IntWalk.i64_in _ (by omega)
  clear h
  have HKL := Lib.hid hkl
  clear hkl
  go_enter Tryz.func54, Tryz.ntmps54
  go_wp2_with fail
  have H2 := Lib.hid (show EyeS (w.setCell ⟨E, 1, none⟩ (.int .i64 (u + 1))) E R l sh (u + 1) bad from ⟨H.out.eye.set 1 _, H.out.rd.set_far (p := ⟨E, 1, none⟩) H.out.ne _, H.out.ne⟩)
  have M0 := Lib.hid ((Mod.refl (fun i => i = E ∨ i = R) w).setCell (p := ⟨E, 1, none⟩) (fun _ => .inl rfl) (.int .i64 (u + 1)))
  have HG := Lib.hid (get_any R l sh 1 1 (by decide) _ H2.out.rd (by omega))
  rw [← HKL.out] at HG
  refine HG.out.mono ?_
  rintro e w1 ⟨rfl, hB, hM⟩
  have K1 := Lib.hid (show EyeA w1 E R s0 by
    have e := HS0.out
    dsimp only [hedS] at e
    subst e
    exact ⟨H2.out.eye.mod hM H2.out.ne, hB, H2.out.ne⟩)
  have K2 := Lib.hid (M0.out.trans (hM.mono (fun i _ e => .inr e)))
  clear hB hM H2 M0 HG hc hf HKL HS0 H
  go_wp2_with fail
  refine (words_any _).mono ?_
  rintro e w2 ⟨g, rfl, _, M2⟩
  have K3 := Lib.hid (K1.out.same M2)
  have K4 := Lib.hid (K2.out.same M2)
  clear M2 K1 K2
  go_wp2_with fail
  refine (words_any _).mono ?_
  rintro e w3 ⟨g3, rfl, hB3, M3⟩
  have K5 := Lib.hid (K3.out.same M3)
  have K6 := Lib.hid (K4.out.same M3)
  have hcw := hB3.at_ (i := 4) (.string ⟨#[112, 105, 110]⟩) rfl
  have hlw := hB3.lt
  clear M3 K3 K4 hB3
  go_wp2_with fail
  refine (C.out _ K5.out).mono ?_
  rintro e w4 ⟨rfl, h1, h2⟩
  have K7 := Lib.hid h1
  have K8 := Lib.hid (K6.out.trans h2)
  clear h1 h2 C K5 K6
  go_wp2_with fail
  exact HR.out _ _ ⟨rfl, K7.out, K8.out⟩
set_option maxRecDepth 10000 in
set_option maxHeartbeats 1000000 in
theorem ordK5 (E R : Nat) (s : ES) (hk : kinS s = 6) (w : World) (h : EyeA w E R s) (ok : s.ok 6) :
    Calls Tryz.prog 54 #[rptr E] w fun e w' => e = .returned (optV (ordS s).1) ∧ EyeA w' E R (ordS s).2 ∧ Mod (fun i => i = E ∨ i = R) w w' := by
  refine opq fun Rr HR => ?_
  have hkl := (kinS_lt s).2
  obtain ⟨s0, hs0⟩ : ∃ s0, hedS s = s0 := ⟨_, rfl⟩
  have HS0 := Lib.hid hs0
  have ok5 : s0.ok 5 := by rw [← hs0]; exact hed_ok ok
  obtain ⟨n0, a0, hn0⟩ := num_eq s0
  have ok0 : a0.ok 4 := by have := num_ok (c := 4) (s := s0) ok5; rw [hn0] at this; exact this
  have e0 : ordS s = (some ⟨5, [n0], []⟩, a0) := by
    unfold ordS
    rw [hk, if_neg (by decide), hs0]
    simp only [show 6 - 1 = 5 from rfl, show nN 5 = 1 from rfl, show nD 5 = 0 from rfl, numsS, txtsS, hn0]
  rw [e0] at HR
  have HV := Lib.hid (show optV (some ⟨5, [n0], []⟩) = .iface 84 (.agg #[.int .i64 n0]) from rfl)
  dsimp only at HR
  rw [HV.out] at HR
  have C := Lib.hid (fun w h => vol5 E R s0 n0 a0 hn0 (ok_less ok5 (by decide)) w h)
  obtain ⟨l, sh, u, bad⟩ := s
  obtain ⟨hl, hu0, hu⟩ := ok
  dsimp only at hl hu0 hu h hkl
  rw [hk] at hkl
  clear hs0 ok5 e0 HV hk hn0 ok0
  have hc := h.eye.cell
  have hf := h.eye.free
  have hlt := h.eye.lt
  have H := Lib.hid h
  have hE : IntKind.i64.wrap (u + 1) = u + 1 := IntWalk.i64_in _ (by omega)
  clear h
  have HKL := Lib.hid hkl
  clear hkl
  go_enter Tryz.func54, Tryz.ntmps54
  go_wp2_with fail
  have H2 := Lib.hid (show EyeS (w.setCell ⟨E, 1, none⟩ (.int .i64 (u + 1))) E R l sh (u + 1) bad from ⟨H.out.eye.set 1 _, H.out.rd.set_far (p := ⟨E, 1, none⟩) H.out.ne _, H.out.ne⟩)
  have M0 := Lib.hid ((Mod.refl (fun i => i = E ∨ i = R) w).setCell (p := ⟨E, 1, none⟩) (fun _ => .inl rfl) (.int .i64 (u + 1)))
  have HG := Lib.hid (get_any R l sh 1 1 (by decide) _ H2.out.rd (by omega))
  rw [← HKL.out] at HG
  refine HG.out.mono ?_
  rintro e w1 ⟨rfl, hB, hM⟩
  have K1 := Lib.hid (show EyeA w1 E R s0 by
    have e := HS0.out
    dsimp only [hedS] at e
    subst e
    exact ⟨H2.out.eye.mod hM H2.out.ne, hB, H2.out.ne⟩)
  have K2 := Lib.hid (M0.out.trans (hM.mono (fun i _ e => .inr e)))
  clear hB hM H2 M0 HG hc hf HKL HS0 H
  go_wp2_with fail
  refine (words_any _).mono ?_
  rintro e w2 ⟨g, rfl, _, M2⟩
  have K3 := Lib.hid (K1.out.same M2)
  have K4 := Lib.hid (K2.out.same M2)
  clear M2 K1 K2
  go_wp2_with fail
  refine (words_any _).mono ?_
  rintro e w3 ⟨g3, rfl, hB3, M3⟩
  have K5 := Lib.hid (K3.out.same M3)
  have K6 := Lib.hid (K4.out.same M3)
  have hcw := hB3.at_ (i := 5) (.string ⟨#[102, 114, 101, 101]⟩) rfl
  have hlw := hB3.lt
  clear M3 K3 K4 hB3
  go_wp2_with fail
  refine (C.out _ K5.out).mono ?_
  rintro e w4 ⟨rfl, h1, h2⟩
  have K7 := Lib.hid h1
  have K8 := Lib.hid (K6.out.trans h2)
  clear h1 h2 C K5 K6
  go_wp2_with fail
  exact HR.out _ _ ⟨rfl, K7.out, K8.out⟩
set_option maxRecDepth 10000 in
set_option maxHeartbeats 1000000 in
theorem ordK6 (E R : Nat) (s : ES) (hk : kinS s = 7) (w : World) (h : EyeA w E R s) (ok : s.ok 6) :
    Calls Tryz.prog 54 #[rptr E] w fun e w' => e = .returned (optV (ordS s).1) ∧ EyeA w' E R (ordS s).2 ∧ Mod (fun i => i = E ∨ i = R) w w' := by
  refine opq fun Rr HR => ?_
  have hkl := (kinS_lt s).2
  obtain ⟨s0, hs0⟩ : ∃ s0, hedS s = s0 := ⟨_, rfl⟩
  have HS0 := Lib.hid hs0
  have ok5 : s0.ok 5 := by rw [← hs0]; exact hed_ok ok
  obtain ⟨n0, a0, hn0⟩ := num_eq s0
  have ok0 : a0.ok 4 := by have := num_ok (c := 4) (s := s0) ok5; rw [hn0] at this; exact this
  obtain ⟨n1, a1, hn1⟩ := num_eq a0
  have ok1 : a1.ok 3 := by have := num_ok (c := 3) (s := a0) ok0; rw [hn1] at this; exact this
  obtain ⟨n2, a2, hn2⟩ := num_eq a1
  have ok2 : a2.ok 2 := by have := num_ok (c := 2) (s := a1) ok1; rw [hn2] at this; exact this
  have e0 : ordS s = (some ⟨6, [n0, n1, n2], []⟩, a2) := by
    unfold ordS
    rw [hk, if_neg (by decide), hs0]
    simp only [show 7 - 1 = 6 from rfl, show nN 6 = 3 from rfl, show nD 6 = 0 from rfl, numsS, txtsS, hn0, hn1, hn2]
  rw [e0] at HR
  have HV := Lib.hid (show optV (some ⟨6, [n0, n1, n2], []⟩) = .iface 86 (.agg #[.int .i64 n0, .int .i64 n1, .int .i64 n2]) from rfl)
  dsimp only at HR
  rw [HV.out] at HR
  have C := Lib.hid (fun w h => sec6 E R s0 n0 a0 hn0 (ok_less ok5 (by decide)) n1 a1 hn1 (ok_less ok0 (by decide)) n2 a2 hn2 (ok_less ok1 (by decide)) w h)
  obtain ⟨l, sh, u, bad⟩ := s
  obtain ⟨hl, hu0, hu⟩ := ok
  dsimp only at hl hu0 hu h hkl
  rw [hk] at hkl
  clear hs0 ok5 e0 HV hk hn0 ok0 hn1 ok1 hn2 ok2
  have hc := h.eye.cell
  have hf := h.eye.free
  have hlt := h.eye.lt
  have H := Lib.hid h
  have hE : IntKind.i64.wrap (u + 1) = u + 1 := IntWalk.i64_in _ (by omega)
  clear h
  have HKL := Lib.hid hkl
  clear hkl
  go_enter Tryz.func54, Tryz.ntmps54
  go_wp2_with fail
  have H2 := Lib.hid (show EyeS (w.setCell ⟨E, 1, none⟩ (.int .i64 (u + 1))) E R l sh (u + 1) bad from ⟨H.out.eye.set 1 _, H.out.rd.set_far (p := ⟨E, 1, none⟩) H.out.ne _, H.out.ne⟩)
  have M0 := Lib.hid ((Mod.refl (fun i => i = E ∨ i = R) w).setCell (p := ⟨E, 1, none⟩) (fun _ => .inl rfl) (.int .i64 (u + 1)))
  have HG := Lib.hid (get_any R l sh 1 1 (by decide) _ H2.out.rd (by omega))
  rw [← HKL.out] at HG
  refine HG.out.mono ?_
  rintro e w1 ⟨rfl, hB, hM⟩
  have K1 := Lib.hid (show EyeA w1 E R s0 by
    have e := HS0.out
    dsimp only [hedS] at e
    subst e
    exact ⟨H2.out.eye.mod hM H2.out.ne, hB, H2.out.ne⟩)
  have K2 := Lib.hid (M0.out.trans (hM.mono (fun i _ e => .inr e)))
  clear hB hM H2 M0 HG hc hf HKL HS0 H
  go_wp2_with fail
  refine (words_any _).mono ?_
  rintro e w2 ⟨g, rfl, _, M2⟩
  have K3 := Lib.hid (K1.out.same M2)
  have K4 := Lib.hid (K2.out.same M2)
  clear M2 K1 K2
  go_wp2_with fail
  refine (words_any _).mono ?_
  rintro e w3 ⟨g3, rfl, hB3, M3⟩
  have K5 := Lib.hid (K3.out.same M3)
  have K6 := Lib.hid (K4.out.same M3)
  have hcw := hB3.at_ (i := 6) (.string ⟨#[114, 101, 97, 100]⟩) rfl
  have hlw := hB3.lt
  clear M3 K3 K4 hB3
  go_wp2_with fail
  refine (C.out _ K5.out).mono ?_
  rintro e w4 ⟨rfl, h1, h2⟩
  have K7 := Lib.hid h1
  have K8 := Lib.hid (K6.out.trans h2)
  clear h1 h2 C K5 K6
  go_wp2_with fail
  exact HR.out _ _ ⟨rfl, K7.out, K8.out⟩
set_option maxRecDepth 10000 in
set_option maxHeartbeats 1000000 in
theorem ordK7 (E R : Nat) (s : ES) (hk : kinS s = 8) (w : World) (h : EyeA w E R s) (ok : s.ok 6) :
    Calls Tryz.prog 54 #[rptr E] w fun e w' => e = .returned (optV (ordS s).1) ∧ EyeA w' E R (ordS s).2 ∧ Mod (fun i => i = E ∨ i = R) w w' := by
  refine opq fun Rr HR => ?_
  have hkl := (kinS_lt s).2
  obtain ⟨s0, hs0⟩ : ∃ s0, hedS s = s0 := ⟨_, rfl⟩
  have HS0 := Lib.hid hs0
  have ok5 : s0.ok 5 := by rw [← hs0]; exact hed_ok ok
  obtain ⟨n0, a0, hn0⟩ := num_eq s0
  have ok0 : a0.ok 4 := by have := num_ok (c := 4) (s := s0) ok5; rw [hn0] at this; exact this
  obtain ⟨n1, a1, hn1⟩ := num_eq a0
  have ok1 : a1.ok 3 := by have := num_ok (c := 3) (s := a0) ok0; rw [hn1] at this; exact this
  obtain ⟨t0, a2, hn2⟩ := txt_eq a1
  have ok2 : a2.ok 2 := by have := txt_ok (c := 2) (s := a1) ok1; rw [hn2] at this; exact this
  have e0 : ordS s = (some ⟨7, [n0, n1], [t0]⟩, a2) := by
    unfold ordS
    rw [hk, if_neg (by decide), hs0]
    simp only [show 8 - 1 = 7 from rfl, show nN 7 = 2 from rfl, show nD 7 = 1 from rfl, numsS, txtsS, hn0, hn1, hn2]
  rw [e0] at HR
  have HV := Lib.hid (show optV (some ⟨7, [n0, n1], [t0]⟩) = .iface 66 (.agg #[.int .i64 n0, .int .i64 n1, .string ⟨t0.toArray⟩]) from rfl)
  dsimp only at HR
  rw [HV.out] at HR
  have C := Lib.hid (fun w h => sec7 E R s0 n0 a0 hn0 (ok_less ok5 (by decide)) n1 a1 hn1 (ok_less ok0 (by decide)) t0 a2 hn2 (ok_less ok1 (by decide)) w h)
  obtain ⟨l, sh, u, bad⟩ := s
  obtain ⟨hl, hu0, hu⟩ := ok
  dsimp only at hl hu0 hu h hkl
  rw [hk] at hkl
  clear hs0 ok5 e0 HV hk hn0 ok0 hn1 ok1 hn2 ok2
  have hc := h.eye.cell
  have hf := h.eye.free
  have hlt := h.eye.lt
  have H := Lib.hid h
  have hE : IntKind.i64.wrap (u + 1) = u + 1 := IntWalk.i64_in _ (by omega)
  clear h
  have HKL := Lib.hid hkl
  clear hkl
  go_enter Tryz.func54, Tryz.ntmps54
  go_wp2_with fail
  have H2 := Lib.hid (show EyeS (w.setCell ⟨E, 1, none⟩ (.int .i64 (u + 1))) E R l sh (u + 1) bad from ⟨H.out.eye.set 1 _, H.out.rd.set_far (p := ⟨E, 1, none⟩) H.out.ne _, H.out.ne⟩)
  have M0 := Lib.hid ((Mod.refl (fun i => i = E ∨ i = R) w).setCell (p := ⟨E, 1, none⟩) (fun _ => .inl rfl) (.int .i64 (u + 1)))
  have HG := Lib.hid (get_any R l sh 1 1 (by decide) _ H2.out.rd (by omega))
  rw [← HKL.out] at HG
  refine HG.out.mono ?_
  rintro e w1 ⟨rfl, hB, hM⟩
  have K1 := Lib.hid (show EyeA w1 E R s0 by
    have e := HS0.out
    dsimp only [hedS] at e
    subst e
    exact ⟨H2.out.eye.mod hM H2.out.ne, hB, H2.out.ne⟩)
  have K2 := Lib.hid (M0.out.trans (hM.mono (fun i _ e => .inr e)))
  clear hB hM H2 M0 HG hc hf HKL HS0 H
  go_wp2_with fail
  refine (words_any _).mono ?_
  rintro e w2 ⟨g, rfl, _, M2⟩
  have K3 := Lib.hid (K1.out.same M2)
  have K4 := Lib.hid (K2.out.same M2)
  clear M2 K1 K2
  go_wp2_with fail
  refine (words_any _).mono ?_
  rintro e w3 ⟨g3, rfl, hB3, M3⟩
  have K5 := Lib.hid (K3.out.same M3)
  have K6 := Lib.hid (K4.out.same M3)
  have hcw := hB3.at_ (i := 7) (.string ⟨#[119, 114, 105, 116, 101]⟩) rfl
  have hlw := hB3.lt
  clear M3 K3 K4 hB3
  go_wp2_with fail
  refine (C.out _ K5.out).mono ?_
  rintro e w4 ⟨rfl, h1, h2⟩
  have K7 := Lib.hid h1
  have K8 := Lib.hid (K6.out.trans h2)
  clear h1 h2 C K5 K6
  go_wp2_with fail
  exact HR.out _ _ ⟨rfl, K7.out, K8.out⟩
set_option maxRecDepth 10000 in
set_option maxHeartbeats 1000000 in
theorem ordK8 (E R : Nat) (s : ES) (hk : kinS s = 9) (w : World) (h : EyeA w E R s) (ok : s.ok 6) :
    Calls Tryz.prog 54 #[rptr E] w fun e w' => e = .returned (optV (ordS s).1) ∧ EyeA w' E R (ordS s).2 ∧ Mod (fun i => i = E ∨ i = R) w w' := by
  refine opq fun Rr HR => ?_
  have hkl := (kinS_lt s).2
  obtain ⟨s0, hs0⟩ : ∃ s0, hedS s = s0 := ⟨_, rfl⟩
  have HS0 := Lib.hid hs0
  have ok5 : s0.ok 5 := by rw [← hs0]; exact hed_ok ok
  obtain ⟨n0, a0, hn0⟩ := num_eq s0
  have ok0 : a0.ok 4 := by have := num_ok (c := 4) (s := s0) ok5; rw [hn0] at this; exact this
  obtain ⟨n1, a1, hn1⟩ := num_eq a0
  have ok1 : a1.ok 3 := by have := num_ok (c := 3) (s := a0) ok0; rw [hn1] at this; exact this
  obtain ⟨n2, a2, hn2⟩ := num_eq a1
  have ok2 : a2.ok 2 := by have := num_ok (c := 2) (s := a1) ok1; rw [hn2] at this; exact this
  have e0 : ordS s = (some ⟨8, [n0, n1, n2], []⟩, a2) := by
    unfold ordS
    rw [hk, if_neg (by decide), hs0]
    simp only [show 9 - 1 = 8 from rfl, show nN 8 = 3 from rfl, show nD 8 = 0 from rfl, numsS, txtsS, hn0, hn1, hn2]
  rw [e0] at HR
  have HV := Lib.hid (show optV (some ⟨8, [n0, n1, n2], []⟩) = .iface 87 (.agg #[.int .i64 n0, .int .i64 n1, .int .i64 n2]) from rfl)
  dsimp only at HR
  rw [HV.out] at HR
  have C := Lib.hid (fun w h => sec8 E R s0 n0 a0 hn0 (ok_less ok5 (by decide)) n1 a1 hn1 (ok_less ok0 (by decide)) n2 a2 hn2 (ok_less ok1 (by decide)) w h)
  obtain ⟨l, sh, u, bad⟩ := s
  obtain ⟨hl, hu0, hu⟩ := ok
  dsimp only at hl hu0 hu h hkl
  rw [hk] at hkl
  clear hs0 ok5 e0 HV hk hn0 ok0 hn1 ok1 hn2 ok2
  have hc := h.eye.cell
  have hf := h.eye.free
  have hlt := h.eye.lt
  have H := Lib.hid h
  have hE : IntKind.i64.wrap (u + 1) = u + 1 := IntWalk.i64_in _ (by omega)
  clear h
  have HKL := Lib.hid hkl
  clear hkl
  go_enter Tryz.func54, Tryz.ntmps54
  go_wp2_with fail
  have H2 := Lib.hid (show EyeS (w.setCell ⟨E, 1, none⟩ (.int .i64 (u + 1))) E R l sh (u + 1) bad from ⟨H.out.eye.set 1 _, H.out.rd.set_far (p := ⟨E, 1, none⟩) H.out.ne _, H.out.ne⟩)
  have M0 := Lib.hid ((Mod.refl (fun i => i = E ∨ i = R) w).setCell (p := ⟨E, 1, none⟩) (fun _ => .inl rfl) (.int .i64 (u + 1)))
  have HG := Lib.hid (get_any R l sh 1 1 (by decide) _ H2.out.rd (by omega))
  rw [← HKL.out] at HG
  refine HG.out.mono ?_
  rintro e w1 ⟨rfl, hB, hM⟩
  have K1 := Lib.hid (show EyeA w1 E R s0 by
    have e := HS0.out
    dsimp only [hedS] at e
    subst e
    exact ⟨H2.out.eye.mod hM H2.out.ne, hB, H2.out.ne⟩)
  have K2 := Lib.hid (M0.out.trans (hM.mono (fun i _ e => .inr e)))
  clear hB hM H2 M0 HG hc hf HKL HS0 H
  go_wp2_with fail
  refine (words_any _).mono ?_
  rintro e w2 ⟨g, rfl, _, M2⟩
  have K3 := Lib.hid (K1.out.same M2)
  have K4 := Lib.hid (K2.out.same M2)
  clear M2 K1 K2
  go_wp2_with fail
  refine (words_any _).mono ?_
  rintro e w3 ⟨g3, rfl, hB3, M3⟩
  have K5 := Lib.hid (K3.out.same M3)
  have K6 := Lib.hid (K4.out.same M3)
  have hcw := hB3.at_ (i := 8) (.string ⟨#[100, 105, 115, 99, 97, 114, 100]⟩) rfl
  have hlw := hB3.lt
  clear M3 K3 K4 hB3
  go_wp2_with fail
  refine (C.out _ K5.out).mono ?_
  rintro e w4 ⟨rfl, h1, h2⟩
  have K7 := Lib.hid h1
  have K8 := Lib.hid (K6.out.trans h2)
  clear h1 h2 C K5 K6
  go_wp2_with fail
  exact HR.out _ _ ⟨rfl, K7.out, K8.out⟩
set_option maxRecDepth 10000 in
set_option maxHeartbeats 1000000 in
theorem ordK9 (E R : Nat) (s : ES) (hk : kinS s = 10) (w : World) (h : EyeA w E R s) (ok : s.ok 6) :
    Calls Tryz.prog 54 #[rptr E] w fun e w' => e = .returned (optV (ordS s).1) ∧ EyeA w' E R (ordS s).2 ∧ Mod (fun i => i = E ∨ i = R) w w' := by
  refine opq fun Rr HR => ?_
  have hkl := (kinS_lt s).2
  obtain ⟨s0, hs0⟩ : ∃ s0, hedS s = s0 := ⟨_, rfl⟩
  have HS0 := Lib.hid hs0
  have ok5 : s0.ok 5 := by rw [← hs0]; exact hed_ok ok
  have e0 : ordS s = (some ⟨9, [], []⟩, s0) := by
    unfold ordS
    rw [hk, if_neg (by decide), hs0]
    simp only [show 10 - 1 = 9 from rfl, show nN 9 = 0 from rfl, show nD 9 = 0 from rfl, numsS, txtsS]
  rw [e0] at HR
  have HV := Lib.hid (show optV (some ⟨9, [], []⟩) = .iface 68 (.agg #[]) from rfl)
  dsimp only at HR
  rw [HV.out] at HR
  obtain ⟨l, sh, u, bad⟩ := s
  obtain ⟨hl, hu0, hu⟩ := ok
  dsimp only at hl hu0 hu h hkl
  rw [hk] at hkl
  clear hs0 ok5 e0 HV hk 
  have hc := h.eye.cell
  have hf := h.eye.free
  have hlt := h.eye.lt
  have H := Lib.hid h
  have hE : IntKind.i64.wrap (u + 1) = u + 1 := IntWalk.i64_in _ (by omega)
  clear h
  have HKL := Lib.hid hkl
  clear hkl
  go_enter Tryz.func54, Tryz.ntmps54
  go_wp2_with fail
  have H2 := Lib.hid (show EyeS (w.setCell ⟨E, 1, none⟩ (.int .i64 (u + 1))) E R l sh (u + 1) bad from ⟨H.out.eye.set 1 _, H.out.rd.set_far (p := ⟨E, 1, none⟩) H.out.ne _, H.out.ne⟩)
  have M0 := Lib.hid ((Mod.refl (fun i => i = E ∨ i = R) w).setCell (p := ⟨E, 1, none⟩) (fun _ => .inl rfl) (.int .i64 (u + 1)))
  have HG := Lib.hid (get_any R l sh 1 1 (by decide) _ H2.out.rd (by omega))
  rw [← HKL.out] at HG
  refine HG.out.mono ?_
  rintro e w1 ⟨rfl, hB, hM⟩
  have K1 := Lib.hid (show EyeA w1 E R s0 by
    have e := HS0.out
    dsimp only [hedS] at e
    subst e
    exact ⟨H2.out.eye.mod hM H2.out.ne, hB, H2.out.ne⟩)
  have K2 := Lib.hid (M0.out.trans (hM.mono (fun i _ e => .inr e)))
  clear hB hM H2 M0 HG hc hf HKL HS0 H
  go_wp2_with fail
  refine (words_any _).mono ?_
  rintro e w2 ⟨g, rfl, _, M2⟩
  have K3 := Lib.hid (K1.out.same M2)
  have K4 := Lib.hid (K2.out.same M2)
  clear M2 K1 K2
  go_wp2_with fail
  refine (words_any _).mono ?_
  rintro e w3 ⟨g3, rfl, hB3, M3⟩
  have K5 := Lib.hid (K3.out.same M3)
  have K6 := Lib.hid (K4.out.same M3)
  have hcw := hB3.at_ (i := 9) (.string ⟨#[102, 108, 117, 115, 104]⟩) rfl
  have hlw := hB3.lt
  clear M3 K3 K4 hB3
  go_wp2_with fail
  exact HR.out _ _ ⟨rfl, K5.out, K6.out⟩
set_option maxRecDepth 10000 in
set_option maxHeartbeats 1000000 in
theorem ordK10 (E R : Nat) (s : ES) (hk : kinS s = 11) (w : World) (h : EyeA w E R s) (ok : s.ok 6) :
    Calls Tryz.prog 54 #[rptr E] w fun e w' => e = .returned (optV (ordS s).1) ∧ EyeA w' E R (ordS s).2 ∧ Mod (fun i => i = E ∨ i = R) w w' := by
  refine opq fun Rr HR => ?_
  have hkl := (kinS_lt s).2
  obtain ⟨s0, hs0⟩ : ∃ s0, hedS s = s0 := ⟨_, rfl⟩
  have HS0 := Lib.hid hs0
  have ok5 : s0.ok 5 := by rw [← hs0]; exact hed_ok ok
  obtain ⟨n0, a0, hn0⟩ := num_eq s0
  have ok0 : a0.ok 4 := by have := num_ok (c := 4) (s := s0) ok5; rw [hn0] at this; exact this
  have e0 : ordS s = (some ⟨10, [n0], []⟩, a0) := by
    unfold ordS
    rw [hk, if_neg (by decide), hs0]
    simp only [show 11 - 1 = 10 from rfl, show nN 10 = 1 from rfl, show nD 10 = 0 from rfl, numsS, txtsS, hn0]
  rw [e0] at HR
  have HV := Lib.hid (show optV (some ⟨10, [n0], []⟩) = .iface 89 (.agg #[.int .i64 n0]) from rfl)
  dsimp only at HR
  rw [HV.out] at HR
  have C := Lib.hid (fun w h => num_all E R s0 a0 n0 hn0 w h (ok_less ok5 (by decide)))
  obtain ⟨l, sh, u, bad⟩ := s
  obtain ⟨hl, hu0, hu⟩ := ok
  dsimp only at hl hu0 hu h hkl
  rw [hk] at hkl
  clear hs0 ok5 e0 HV hk hn0 ok0
  have hc := h.eye.cell
  have hf := h.eye.free
  have hlt := h.eye.lt
  have H := Lib.hid h
  have hE : IntKind.i64.wrap (u + 1) = u + 1 := IntWalk.i64_in _ (by omega)
  clear h
  have HKL := Lib.hid hkl
  clear hkl
  go_enter Tryz.func54, Tryz.ntmps54
  go_wp2_with fail
  have H2 := Lib.hid (show EyeS (w.setCell ⟨E, 1, none⟩ (.int .i64 (u + 1))) E R l sh (u + 1) bad from ⟨H.out.eye.set 1 _, H.out.rd.set_far (p := ⟨E, 1, none⟩) H.out.ne _, H.out.ne⟩)
  have M0 := Lib.hid ((Mod.refl (fun i => i = E ∨ i = R) w).setCell (p := ⟨E, 1, none⟩) (fun _ => .inl rfl) (.int .i64 (u + 1)))
  have HG := Lib.hid (get_any R l sh 1 1 (by decide) _ H2.out.rd (by omega))
  rw [← HKL.out] at HG
  refine HG.out.mono ?_
  rintro e w1 ⟨rfl, hB, hM⟩
  have K1 := Lib.hid (show EyeA w1 E R s0 by
    have e := HS0.out
    dsimp only [hedS] at e
    subst e
    exact ⟨H2.out.eye.mod hM H2.out.ne, hB, H2.out.ne⟩)
  have K2 := Lib.hid (M0.out.trans (hM.mono (fun i _ e => .inr e)))
  clear hB hM H2 M0 HG hc hf HKL HS0 H
  go_wp2_with fail
  refine (words_any _).mono ?_
  rintro e w2 ⟨g, rfl, _, M2⟩
  have K3 := Lib.hid (K1.out.same M2)
  have K4 := Lib.hid (K2.out.same M2)
  clear M2 K1 K2
  go_wp2_with fail
  refine (words_any _).mono ?_
  rintro e w3 ⟨g3, rfl, hB3, M3⟩
  have K5 := Lib.hid (K3.out.same M3)
  have K6 := Lib.hid (K4.out.same M3)
  have hcw := hB3.at_ (i := 10) (.string ⟨#[116, 105, 99, 107]⟩) rfl
  have hlw := hB3.lt
  clear M3 K3 K4 hB3
  go_wp2_with fail
  refine (C.out _ K5.out).mono ?_
  rintro e w4 ⟨rfl, h1, h2⟩
  have K7 := Lib.hid h1
  have K8 := Lib.hid (K6.out.trans h2)
  clear h1 h2 C K5 K6
  go_wp2_with fail
  exact HR.out _ _ ⟨rfl, K7.out, K8.out⟩
set_option maxRecDepth 10000 in
set_option maxHeartbeats 1000000 in
theorem ordK11 (E R : Nat) (s : ES) (hk : kinS s = 12) (w : World) (h : EyeA w E R s) (ok : s.ok 6) :
    Calls Tryz.prog 54 #[rptr E] w fun e w' => e = .returned (optV (ordS s).1) ∧ EyeA w' E R (ordS s).2 ∧ Mod (fun i => i = E ∨ i = R) w w' := by
  refine opq fun Rr HR => ?_
  have hkl := (kinS_lt s).2
  obtain ⟨s0, hs0⟩ : ∃ s0, hedS s = s0 := ⟨_, rfl⟩
  have HS0 := Lib.hid hs0
  have ok5 : s0.ok 5 := by rw [← hs0]; exact hed_ok ok
  have e0 : ordS s = (some ⟨11, [], []⟩, s0) := by
    unfold ordS
    rw [hk, if_neg (by decide), hs0]
    simp only [show 12 - 1 = 11 from rfl, show nN 11 = 0 from rfl, show nD 11 = 0 from rfl, numsS, txtsS]
  rw [e0] at HR
  have HV := Lib.hid (show optV (some ⟨11, [], []⟩) = .iface 90 (.agg #[]) from rfl)
  dsimp only at HR
  rw [HV.out] at HR
  obtain ⟨l, sh, u, bad⟩ := s
  obtain ⟨hl, hu0, hu⟩ := ok
  dsimp only at hl hu0 hu h hkl
  rw [hk] at hkl
  clear hs0 ok5 e0 HV hk 
  have hc := h.eye.cell
  have hf := h.eye.free
  have hlt := h.eye.lt
  have H := Lib.hid h
  have hE : IntKind.i64.wrap (u + 1) = u + 1 := IntWalk.i64_in _ (by omega)
  clear h
  have HKL := Lib.hid hkl
  clear hkl
  go_enter Tryz.func54, Tryz.ntmps54
  go_wp2_with fail
  have H2 := Lib.hid (show EyeS (w.setCell ⟨E, 1, none⟩ (.int .i64 (u + 1))) E R l sh (u + 1) bad from ⟨H.out.eye.set 1 _, H.out.rd.set_far (p := ⟨E, 1, none⟩) H.out.ne _, H.out.ne⟩)
  have M0 := Lib.hid ((Mod.refl (fun i => i = E ∨ i = R) w).setCell (p := ⟨E, 1, none⟩) (fun _ => .inl rfl) (.int .i64 (u + 1)))
  have HG := Lib.hid (get_any R l sh 1 1 (by decide) _ H2.out.rd (by omega))
  rw [← HKL.out] at HG
  refine HG.out.mono ?_
  rintro e w1 ⟨rfl, hB, hM⟩
  have K1 := Lib.hid (show EyeA w1 E R s0 by
    have e := HS0.out
    dsimp only [hedS] at e
    subst e
    exact ⟨H2.out.eye.mod hM H2.out.ne, hB, H2.out.ne⟩)
  have K2 := Lib.hid (M0.out.trans (hM.mono (fun i _ e => .inr e)))
  clear hB hM H2 M0 HG hc hf HKL HS0 H
  go_wp2_with fail
  refine (words_any _).mono ?_
  rintro e w2 ⟨g, rfl, _, M2⟩
  have K3 := Lib.hid (K1.out.same M2)
  have K4 := Lib.hid (K2.out.same M2)
  clear M2 K1 K2
  go_wp2_with fail
  refine (words_any _).mono ?_
  rintro e w3 ⟨g3, rfl, hB3, M3⟩
  have K5 := Lib.hid (K3.out.same M3)
  have K6 := Lib.hid (K4.out.same M3)
  have hcw := hB3.at_ (i := 11) (.string ⟨#[100, 101, 99, 97, 121]⟩) rfl
  have hlw := hB3.lt
  clear M3 K3 K4 hB3
  go_wp2_with fail
  exact HR.out _ _ ⟨rfl, K5.out, K6.out⟩
set_option maxRecDepth 10000 in
set_option maxHeartbeats 1000000 in
theorem ordK12 (E R : Nat) (s : ES) (hk : kinS s = 13) (w : World) (h : EyeA w E R s) (ok : s.ok 6) :
    Calls Tryz.prog 54 #[rptr E] w fun e w' => e = .returned (optV (ordS s).1) ∧ EyeA w' E R (ordS s).2 ∧ Mod (fun i => i = E ∨ i = R) w w' := by
  refine opq fun Rr HR => ?_
  have hkl := (kinS_lt s).2
  obtain ⟨s0, hs0⟩ : ∃ s0, hedS s = s0 := ⟨_, rfl⟩
  have HS0 := Lib.hid hs0
  have ok5 : s0.ok 5 := by rw [← hs0]; exact hed_ok ok
  have e0 : ordS s = (some ⟨12, [], []⟩, s0) := by
    unfold ordS
    rw [hk, if_neg (by decide), hs0]
    simp only [show 13 - 1 = 12 from rfl, show nN 12 = 0 from rfl, show nD 12 = 0 from rfl, numsS, txtsS]
  rw [e0] at HR
  have HV := Lib.hid (show optV (some ⟨12, [], []⟩) = .iface 91 (.agg #[]) from rfl)
  dsimp only at HR
  rw [HV.out] at HR
  obtain ⟨l, sh, u, bad⟩ := s
  obtain ⟨hl, hu0, hu⟩ := ok
  dsimp only at hl hu0 hu h hkl
  rw [hk] at hkl
  clear hs0 ok5 e0 HV hk 
  have hc := h.eye.cell
  have hf := h.eye.free
  have hlt := h.eye.lt
  have H := Lib.hid h
  have hE : IntKind.i64.wrap (u + 1) = u + 1 := IntWalk.i64_in _ (by omega)
  clear h
  have HKL := Lib.hid hkl
  clear hkl
  go_enter Tryz.func54, Tryz.ntmps54
  go_wp2_with fail
  have H2 := Lib.hid (show EyeS (w.setCell ⟨E, 1, none⟩ (.int .i64 (u + 1))) E R l sh (u + 1) bad from ⟨H.out.eye.set 1 _, H.out.rd.set_far (p := ⟨E, 1, none⟩) H.out.ne _, H.out.ne⟩)
  have M0 := Lib.hid ((Mod.refl (fun i => i = E ∨ i = R) w).setCell (p := ⟨E, 1, none⟩) (fun _ => .inl rfl) (.int .i64 (u + 1)))
  have HG := Lib.hid (get_any R l sh 1 1 (by decide) _ H2.out.rd (by omega))
  rw [← HKL.out] at HG
  refine HG.out.mono ?_
  rintro e w1 ⟨rfl, hB, hM⟩
  have K1 := Lib.hid (show EyeA w1 E R s0 by
    have e := HS0.out
    dsimp only [hedS] at e
    subst e
    exact ⟨H2.out.eye.mod hM H2.out.ne, hB, H2.out.ne⟩)
  have K2 := Lib.hid (M0.out.trans (hM.mono (fun i _ e => .inr e)))
  clear hB hM H2 M0 HG hc hf HKL HS0 H
  go_wp2_with fail
  refine (words_any _).mono ?_
  rintro e w2 ⟨g, rfl, _, M2⟩
  have K3 := Lib.hid (K1.out.same M2)
  have K4 := Lib.hid (K2.out.same M2)
  clear M2 K1 K2
  go_wp2_with fail
  refine (words_any _).mono ?_
  rintro e w3 ⟨g3, rfl, hB3, M3⟩
  have K5 := Lib.hid (K3.out.same M3)
  have K6 := Lib.hid (K4.out.same M3)
  have hcw := hB3.at_ (i := 12) (.string ⟨#[115, 116, 97, 116, 117, 115]⟩) rfl
  have hlw := hB3.lt
  clear M3 K3 K4 hB3
  go_wp2_with fail
  exact HR.out _ _ ⟨rfl, K5.out, K6.out⟩
set_option maxRecDepth 10000 in
set_option maxHeartbeats 1000000 in
theorem ordK13 (E R : Nat) (s : ES) (hk : kinS s = 14) (w : World) (h : EyeA w E R s) (ok : s.ok 6) :
    Calls Tryz.prog 54 #[rptr E] w fun e w' => e = .returned (optV (ordS s).1) ∧ EyeA w' E R (ordS s).2 ∧ Mod (fun i => i = E ∨ i = R) w w' := by
  refine opq fun Rr HR => ?_
  have hkl := (kinS_lt s).2
  obtain ⟨s0, hs0⟩ : ∃ s0, hedS s = s0 := ⟨_, rfl⟩
  have HS0 := Lib.hid hs0
  have ok5 : s0.ok 5 := by rw [← hs0]; exact hed_ok ok
  obtain ⟨n0, a0, hn0⟩ := num_eq s0
  have ok0 : a0.ok 4 := by have := num_ok (c := 4) (s := s0) ok5; rw [hn0] at this; exact this
  have e0 : ordS s = (some ⟨13, [n0], []⟩, a0) := by
    unfold ordS
    rw [hk, if_neg (by decide), hs0]
    simp only [show 14 - 1 = 13 from rfl, show nN 13 = 1 from rfl, show nD 13 = 0 from rfl, numsS, txtsS, hn0]
  rw [e0] at HR
  have HV := Lib.hid (show optV (some ⟨13, [n0], []⟩) = .iface 93 (.agg #[.int .i64 n0]) from rfl)
  dsimp only at HR
  rw [HV.out] at HR
  have C := Lib.hid (fun w h => num_all E R s0 a0 n0 hn0 w h (ok_less ok5 (by decide)))
  obtain ⟨l, sh, u, bad⟩ := s
  obtain ⟨hl, hu0, hu⟩ := ok
  dsimp only at hl hu0 hu h hkl
  rw [hk] at hkl
  clear hs0 ok5 e0 HV hk hn0 ok0
  have hc := h.eye.cell
  have hf := h.eye.free
  have hlt := h.eye.lt
  have H := Lib.hid h
  have hE : IntKind.i64.wrap (u + 1) = u + 1 := IntWalk.i64_in _ (by omega)
  clear h
  have HKL := Lib.hid hkl
  clear hkl
  go_enter Tryz.func54, Tryz.ntmps54
  go_wp2_with fail
  have H2 := Lib.hid (show EyeS (w.setCell ⟨E, 1, none⟩ (.int .i64 (u + 1))) E R l sh (u + 1) bad from ⟨H.out.eye.set 1 _, H.out.rd.set_far (p := ⟨E, 1, none⟩) H.out.ne _, H.out.ne⟩)
  have M0 := Lib.hid ((Mod.refl (fun i => i = E ∨ i = R) w).setCell (p := ⟨E, 1, none⟩) (fun _ => .inl rfl) (.int .i64 (u + 1)))
  have HG := Lib.hid (get_any R l sh 1 1 (by decide) _ H2.out.rd (by omega))
  rw [← HKL.out] at HG
  refine HG.out.mono ?_
  rintro e w1 ⟨rfl, hB, hM⟩
  have K1 := Lib.hid (show EyeA w1 E R s0 by
    have e := HS0.out
    dsimp only [hedS] at e
    subst e
    exact ⟨H2.out.eye.mod hM H2.out.ne, hB, H2.out.ne⟩)
  have K2 := Lib.hid (M0.out.trans (hM.mono (fun i _ e => .inr e)))
  clear hB hM H2 M0 HG hc hf HKL HS0 H
  go_wp2_with fail
  refine (words_any _).mono ?_
  rintro e w2 ⟨g, rfl, _, M2⟩
  have K3 := Lib.hid (K1.out.same M2)
  have K4 := Lib.hid (K2.out.same M2)
  clear M2 K1 K2
  go_wp2_with fail
  refine (words_any _).mono ?_
  rintro e w3 ⟨g3, rfl, hB3, M3⟩
  have K5 := Lib.hid (K3.out.same M3)
  have K6 := Lib.hid (K4.out.same M3)
  have hcw := hB3.at_ (i := 13) (.string ⟨#[102, 117, 115, 101]⟩) rfl
  have hlw := hB3.lt
  clear M3 K3 K4 hB3
  go_wp2_with fail
  refine (C.out _ K5.out).mono ?_
  rintro e w4 ⟨rfl, h1, h2⟩
  have K7 := Lib.hid h1
  have K8 := Lib.hid (K6.out.trans h2)
  clear h1 h2 C K5 K6
  go_wp2_with fail
  exact HR.out _ _ ⟨rfl, K7.out, K8.out⟩
set_option maxRecDepth 10000 in
set_option maxHeartbeats 1000000 in
theorem ordK14 (E R : Nat) (s : ES) (hk : kinS s = 15) (w : World) (h : EyeA w E R s) (ok : s.ok 6) :
    Calls Tryz.prog 54 #[rptr E] w fun e w' => e = .returned (optV (ordS s).1) ∧ EyeA w' E R (ordS s).2 ∧ Mod (fun i => i = E ∨ i = R) w w' := by
  refine opq fun Rr HR => ?_
  have hkl := (kinS_lt s).2
  obtain ⟨s0, hs0⟩ : ∃ s0, hedS s = s0 := ⟨_, rfl⟩
  have HS0 := Lib.hid hs0
  have ok5 : s0.ok 5 := by rw [← hs0]; exact hed_ok ok
  obtain ⟨t0, a0, hn0⟩ := txt_eq s0
  have ok0 : a0.ok 4 := by have := txt_ok (c := 4) (s := s0) ok5; rw [hn0] at this; exact this
  obtain ⟨t1, a1, hn1⟩ := txt_eq a0
  have ok1 : a1.ok 3 := by have := txt_ok (c := 3) (s := a0) ok0; rw [hn1] at this; exact this
  obtain ⟨t2, a2, hn2⟩ := txt_eq a1
  have ok2 : a2.ok 2 := by have := txt_ok (c := 2) (s := a1) ok1; rw [hn2] at this; exact this
  have e0 : ordS s = (some ⟨14, [], [t0, t1, t2]⟩, a2) := by
    unfold ordS
    rw [hk, if_neg (by decide), hs0]
    simp only [show 15 - 1 = 14 from rfl, show nN 14 = 0 from rfl, show nD 14 = 3 from rfl, numsS, txtsS, hn0, hn1, hn2]
  rw [e0] at HR
  have HV := Lib.hid (show optV (some ⟨14, [], [t0, t1, t2]⟩) = .iface 95 (.agg #[.string ⟨t0.toArray⟩, .string ⟨t1.toArray⟩, .string ⟨t2.toArray⟩]) from rfl)
  dsimp only at HR
  rw [HV.out] at HR
  have C := Lib.hid (fun w h => cra14 E R s0 t0 a0 hn0 (ok_less ok5 (by decide)) t1 a1 hn1 (ok_less ok0 (by decide)) t2 a2 hn2 (ok_less ok1 (by decide)) w h)
  obtain ⟨l, sh, u, bad⟩ := s
  obtain ⟨hl, hu0, hu⟩ := ok
  dsimp only at hl hu0 hu h hkl
  rw [hk] at hkl
  clear hs0 ok5 e0 HV hk hn0 ok0 hn1 ok1 hn2 ok2
  have hc := h.eye.cell
  have hf := h.eye.free
  have hlt := h.eye.lt
  have H := Lib.hid h
  have hE : IntKind.i64.wrap (u + 1) = u + 1 := IntWalk.i64_in _ (by omega)
  clear h
  have HKL := Lib.hid hkl
  clear hkl
  go_enter Tryz.func54, Tryz.ntmps54
  go_wp2_with fail
  have H2 := Lib.hid (show EyeS (w.setCell ⟨E, 1, none⟩ (.int .i64 (u + 1))) E R l sh (u + 1) bad from ⟨H.out.eye.set 1 _, H.out.rd.set_far (p := ⟨E, 1, none⟩) H.out.ne _, H.out.ne⟩)
  have M0 := Lib.hid ((Mod.refl (fun i => i = E ∨ i = R) w).setCell (p := ⟨E, 1, none⟩) (fun _ => .inl rfl) (.int .i64 (u + 1)))
  have HG := Lib.hid (get_any R l sh 1 1 (by decide) _ H2.out.rd (by omega))
  rw [← HKL.out] at HG
  refine HG.out.mono ?_
  rintro e w1 ⟨rfl, hB, hM⟩
  have K1 := Lib.hid (show EyeA w1 E R s0 by
    have e := HS0.out
    dsimp only [hedS] at e
    subst e
    exact ⟨H2.out.eye.mod hM H2.out.ne, hB, H2.out.ne⟩)
  have K2 := Lib.hid (M0.out.trans (hM.mono (fun i _ e => .inr e)))
  clear hB hM H2 M0 HG hc hf HKL HS0 H
  go_wp2_with fail
  refine (words_any _).mono ?_
  rintro e w2 ⟨g, rfl, _, M2⟩
  have K3 := Lib.hid (K1.out.same M2)
  have K4 := Lib.hid (K2.out.same M2)
  clear M2 K1 K2
  go_wp2_with fail
  refine (words_any _).mono ?_
  rintro e w3 ⟨g3, rfl, hB3, M3⟩
  have K5 := Lib.hid (K3.out.same M3)
  have K6 := Lib.hid (K4.out.same M3)
  have hcw := hB3.at_ (i := 14) (.string ⟨#[99, 114, 97, 115, 104]⟩) rfl
  have hlw := hB3.lt
  clear M3 K3 K4 hB3
  go_wp2_with fail
  refine (C.out _ K5.out).mono ?_
  rintro e w4 ⟨rfl, h1, h2⟩
  have K7 := Lib.hid h1
  have K8 := Lib.hid (K6.out.trans h2)
  clear h1 h2 C K5 K6
  go_wp2_with fail
  exact HR.out _ _ ⟨rfl, K7.out, K8.out⟩
set_option maxRecDepth 10000 in
set_option maxHeartbeats 1000000 in
theorem ordK_bad (E R : Nat) (s : ES) (hk : kinS s = 0 ∨ 15 < kinS s) (w : World) (h : EyeA w E R s) (ok : s.ok 6) :
    Calls Tryz.prog 54 #[rptr E] w fun e w' => e = .returned (optV (ordS s).1) ∧ EyeA w' E R (ordS s).2 ∧ Mod (fun i => i = E ∨ i = R) w w' := by
  refine opq fun Rr HR => ?_
  have e0 : ordS s = (none, { hedS s with bad := true }) := by unfold ordS; rw [if_pos hk]
  rw [e0] at HR
  unfold optV at HR
  dsimp only at HR
  have hkl := (kinS_lt s).2
  have hkl2 := (kinS_lt s).1
  have HK := Lib.hid hk
  generalize kinS s = kk at *
  obtain ⟨l, sh, u, bad⟩ := s
  obtain ⟨hl, hu0, hu⟩ := ok
  dsimp only at hl hu0 hu h hkl
  clear e0 hk
  have hc := h.eye.cell
  have hf := h.eye.free
  have hlt := h.eye.lt
  have H := Lib.hid h
  have hE : IntKind.i64.wrap (u + 1) = u + 1 := IntWalk.i64_in _ (by omega)
  clear h
  have HKL := Lib.hid hkl
  clear hkl
  have hz : IntKind.i64.wrap (kk : Int) = (kk : Int) := IntWalk.i64_in _ (by omega)
  go_enter Tryz.func54, Tryz.ntmps54
  go_wp2_with fail
  have H2 := Lib.hid (show EyeS (w.setCell ⟨E, 1, none⟩ (.int .i64 (u + 1))) E R l sh (u + 1) bad from ⟨H.out.eye.set 1 _, H.out.rd.set_far (p := ⟨E, 1, none⟩) H.out.ne _, H.out.ne⟩)
  have M0 := Lib.hid ((Mod.refl (fun i => i = E ∨ i = R) w).setCell (p := ⟨E, 1, none⟩) (fun _ => .inl rfl) (.int .i64 (u + 1)))
  have HG := Lib.hid (get_any R l sh 1 1 (by decide) _ H2.out.rd (by omega))
  rw [← HKL.out] at HG
  refine HG.out.mono ?_
  rintro e w1 ⟨rfl, hB, hM⟩
  have K1 := Lib.hid (show EyeA w1 E R (hedS ⟨l, sh, u, bad⟩) from ⟨H2.out.eye.mod hM H2.out.ne, hB, H2.out.ne⟩)
  have K2 := Lib.hid (M0.out.trans (hM.mono (fun i _ e => .inr e)))
  clear hB hM H2 M0 HG hc hf HKL H hlt
  rcases HK.out with rfl | h15
  · have hc1 := K1.out.eye.cell
    have hf1 := K1.out.eye.free
    have hlt1 := K1.out.eye.lt
    go_wp2_with fail
    exact HR.out _ _ ⟨rfl, ⟨K1.out.eye.set 2 _, K1.out.rd.set_far (p := ⟨E, 2, none⟩) K1.out.ne _, K1.out.ne⟩, K2.out.setCell (p := ⟨E, 2, none⟩) (fun _ => .inl rfl) _⟩
  · go_wp2_with fail
    refine (words_any _).mono ?_
    rintro e w2 ⟨g, rfl, _, M2⟩
    have K3 := Lib.hid (K1.out.same M2)
    have K4 := Lib.hid (K2.out.same M2)
    have hc1 := K3.out.eye.cell
    have hf1 := K3.out.eye.free
    have hlt1 := K3.out.eye.lt
    clear M2 K1 K2
    go_wp2_with fail
    exact HR.out _ _ ⟨rfl, ⟨K3.out.eye.set 2 _, K3.out.rd.set_far (p := ⟨E, 2, none⟩) K3.out.ne _, K3.out.ne⟩, K4.out.setCell (p := ⟨E, 2, none⟩) (fun _ => .inl rfl) _⟩
theorem ord_all (E R : Nat) (s : ES) (w : World) (h : EyeA w E R s) (ok : s.ok 6) :
    Calls Tryz.prog 54 #[rptr E] w fun e w' => e = .returned (optV (ordS s).1) ∧ EyeA w' E R (ordS s).2 ∧ Mod (fun i => i = E ∨ i = R) w w' := by
  by_cases hk : kinS s = 0 ∨ 15 < kinS s
  · exact ordK_bad E R s hk w h ok
  · have : kinS s = 1 ∨ kinS s = 2 ∨ kinS s = 3 ∨ kinS s = 4 ∨ kinS s = 5 ∨ kinS s = 6 ∨ kinS s = 7 ∨ kinS s = 8 ∨ kinS s = 9 ∨ kinS s = 10 ∨ kinS s = 11 ∨ kinS s = 12 ∨ kinS s = 13 ∨ kinS s = 14 ∨ kinS s = 15 := by omega
    rcases this with e | e | e | e | e | e | e | e | e | e | e | e | e | e | e
    · exact ordK0 E R s e w h ok
    · exact ordK1 E R s e w h ok
    · exact ordK2 E R s e w h ok
    · exact ordK3 E R s e w h ok
    · exact ordK4 E R s e w h ok
    · exact ordK5 E R s e w h ok
    · exact ordK6 E R s e w h ok
    · exact ordK7 E R s e w h ok
    · exact ordK8 E R s e w h ok
    · exact ordK9 E R s e w h ok
    · exact ordK10 E R s e w h ok
    · exact ordK11 E R s e w h ok
    · exact ordK12 E R s e w h ok
    · exact ordK13 E R s e w h ok
    · exact ordK14 E R s e w h ok
end Go.Proofs.YtdengmlidckkeaaGreatDoor
namespace Go.Proofs.YtdengmlidckkeaaGreatDoor
open Go Go.RowKit
/-- The bytes of an order's texts. -/
def datL (t : List UInt8) : List UInt8 := leB (t.length : Int) 2 ++ t
def datsL (ts : List (List UInt8)) : List UInt8 := ts.flatMap datL
/-- An order's bytes. -/
def packW (o : OW) : List UInt8 := packN o.k o.ns ++ datsL o.ts
theorem datsL_succ (ts : List (List UInt8)) (k : Nat) (x : List UInt8) (hx : ts[k]? = some x) : datsL (ts.take (k + 1)) = datsL (ts.take k) ++ datL x := by
  obtain ⟨hk, rfl⟩ := List.getElem?_eq_some_iff.1 hx
  unfold datsL
  rw [List.take_succ_eq_append_getElem hk, List.flatMap_append]; simp
theorem datsL_len : ∀ (ts : List (List UInt8)), (∀ t ∈ ts, t.length ≤ 512) → (datsL ts).length ≤ 514 * ts.length
  | [], _ => by simp [datsL]
  | a :: l, h => by
    have h1 := datsL_len l fun t ht => h t (by simp [ht])
    have h2 := h a (by simp)
    unfold datsL at *
    rw [List.flatMap_cons, List.length_append, List.length_cons]
    have : (datL a).length = 2 + a.length := by unfold datL; rw [List.length_append, leB_len]
    omega
theorem packW_nil (k : Nat) (ns : List Int) : packW ⟨k, ns, []⟩ = packN k ns := by unfold packW datsL; simp
theorem packN_len (k : Nat) (ns : List Int) : (packN k ns).length = 1 + 8 * ns.length := by unfold packN; rw [List.length_append, leB_len, numsL_len]
theorem fits_mem {o : OW} (h : o.fits = true) : ∀ t ∈ o.ts, t.length ≤ 512 := fun t ht => of_decide_eq_true (List.all_eq_true.1 h t ht)
theorem small3 (o : OW) (hf : o.form) : o.ns.length ≤ 3 ∧ o.ts.length ≤ 3 := by
  have h1 := hf.nn
  have h2 := hf.nd
  have h3 : ∀ k, k < 15 → nN k ≤ 3 ∧ nD k ≤ 3 := by decide
  have := h3 o.k hf.lt
  omega
theorem packW_len (o : OW) (hf : o.form) (hfit : o.fits = true) : 1 ≤ (packW o).length ∧ (packW o).length ≤ 1600 := by
  have h1 := small3 o hf
  have h2 := datsL_len o.ts (fits_mem hfit)
  unfold packW
  rw [List.length_append, packN_len]; omega
theorem partsV_ok (o : OW) (hf : o.form) (hfit : o.fits = true) (w : World) : Calls Tryz.prog 37 #[ordW o] w (PartsV w (o.ns.map (Value.int .i64)) (o.ts.map strV)) := by
  have hp := parts_all o hf w
  rw [hfit] at hp
  exact hp
theorem bytes_toList (l : List UInt8) : (⟨l.toArray⟩ : ByteArray).data.toList = l := rfl
set_option maxRecDepth 10000 in
set_option maxHeartbeats 4000000 in
theorem put_ok (o : OW) (hf : o.form) (hfit : o.fits = true) (w : World) (hT : TabOK w)
    (B b : Nat) (l : List UInt8) (hW : WrF w B b (Lib.byteCells l)) (hlen : l.length ≤ 100000000000000) (hBw : B ≤ w.heap.size) (h4 : 4 < B) :
    Calls Tryz.prog 48 #[.pointer (some ⟨b, 0, none⟩), ordW o] w fun e w' => e = .returned (.int .i64 0) ∧ WrF w' B b (Lib.byteCells (l ++ packW o)) ∧ Below B w w' := by
  refine opq fun R HR => ?_
  have HTx := Lib.hid (text_ok o hf hfit w hT)
  have HNm := Lib.hid (fun w => numbers_of (ordW o) _ _ w (partsV_ok o hf hfit))
  have HDt := Lib.hid (fun w => data_of (ordW o) _ _ w (partsV_ok o hf hfit))
  have HT := Lib.hid hT
  have HW := Lib.hid hW
  have hbw : b < w.heap.size := by rcases hW with q | q <;> exact q.lt
  have hsm := small3 o hf
  have HFM := Lib.hid (fits_mem hfit)
  have hj := hf.lt
  unfold ordW at HTx HNm HDt ⊢
  unfold packW packN at HR
  clear hT hW hf hfit
  obtain ⟨j, ns, ts⟩ := o
  dsimp only at HTx HNm HDt HR hsm HFM hj ⊢
  generalize ordC _ = cs at *
  obtain ⟨n, hnl⟩ : ∃ n, ns.length = n := ⟨_, rfl⟩
  obtain ⟨m, hml⟩ : ∃ m, ts.length = m := ⟨_, rfl⟩
  have HNL := Lib.hid hnl
  have HML := Lib.hid hml
  rw [hnl, hml] at hsm
  obtain ⟨hn3, hm3⟩ := hsm
  obtain ⟨T, hTj⟩ : ∃ T, kT j = T := ⟨_, rfl⟩
  have HTj := Lib.hid hTj
  rw [hTj] at HTx HNm HDt ⊢
  clear hnl hml hTj
  generalize (⟨(textO _).toArray⟩ : ByteArray) = tx at *
  go_enter Tryz.func48, Tryz.ntmps48
  go_wp2_with fail
  refine HTx.out.mono ?_
  rintro e w1 ⟨rfl, M1⟩
  have K1 := Lib.hid (wr_same HW.out M1)
  have K2 := Lib.hid (M1.to_below hBw)
  have hBw1 : B ≤ w1.heap.size := Nat.le_trans hBw M1.size
  have hb1 : b < w1.heap.size := Nat.lt_of_lt_of_le hbw M1.size
  clear M1 HW HTx hbw
  go_upto_region 4 with fail
  go_cut [] (fun wx => WrF wx B b (Lib.byteCells (l ++ leB ((j : Int) + 1) 1)) ∧ Below B w1 wx)
  case first => as_aux_lemma =>
    have hTT := HTj.out
    have HI := Lib.hid (fun g w h => index_any j hj g w h)
    have h : j = 0 ∨ j = 1 ∨ j = 2 ∨ j = 3 ∨ j = 4 ∨ j = 5 ∨ j = 6 ∨ j = 7 ∨ j = 8 ∨ j = 9 ∨ j = 10 ∨ j = 11 ∨ j = 12 ∨ j = 13 ∨ j = 14 := by omega
    clear HNm HDt HT HR HNL HML HFM
    rcases h with rfl | rfl | rfl | rfl | rfl | rfl | rfl | rfl | rfl | rfl | rfl | rfl | rfl | rfl | rfl
    all_goals
      obtain rfl := hTT
      go_wp2_with (first
        | (go_at_call 76; refine (words_any _).mono ?_; rintro e w2 ⟨g, rfl, hBl, M2⟩; have A2 := Lib.hid hBl; have A3 := Lib.hid M2; clear hBl M2)
        | (go_at_call 75; refine (HI.out g _ (A2.out.alloc _)).mono ?_; rintro e w3 ⟨rfl, rfl⟩)
        | (go_at_call 50; refine Calls.mono (put_any B b l _ 1 1 (by decide) _ (wr_same K1.out (A3.out.alloc _)) ?_ (by omega) (Nat.le_trans hBw1 (A3.out.alloc _).size)) ?_; (unfold U64; omega); rintro e w4 ⟨rfl, hW4, hB4, _⟩; have A4 := Lib.hid hW4; have A5 := Lib.hid ((Same.to_below (A3.out.alloc _) hBw1).trans hB4); clear hW4 hB4)
        | go_in)
      go_meet
      exact ⟨A4.out, A5.out⟩
  case rest =>
    obtain ⟨hWc, hBc⟩ := hcut
    have K3 := Lib.hid hWc
    have K4 := Lib.hid (K2.out.trans hBc)
    have hBwc : B ≤ wc.heap.size := Nat.le_trans hBw1 hBc.size
    have hbc : b < wc.heap.size := Nat.lt_of_lt_of_le hb1 hBc.size
    clear hWc hBc K1 K2
    go_wp2_with fail
    refine (HNm.out _).mono ?_
    rintro e w2 ⟨a1, c1, rfl, r1, M2⟩
    rw [List.length_map, HNL.out]
    have K5 := Lib.hid (wr_same K3.out M2)
    have K6 := Lib.hid (K4.out.trans (M2.to_below hBwc))
    have K7 := Lib.hid r1
    have hBw2 : B ≤ w2.heap.size := Nat.le_trans hBwc M2.size
    have hbw2 : b < w2.heap.size := Nat.lt_of_lt_of_le hbc M2.size
    clear M2 r1 K3 K4 HNm
    go_wp2_with fail
    go_loopw [30, 8] (fun i _ wr => ∃ k : Nat, k ≤ n ∧ i = .int .i64 k ∧ WrF wr B b (Lib.byteCells (l ++ leB ((j : Int) + 1) 1 ++ numsL (ns.take k))) ∧ Below B w2 wr ∧ Lib.OthersKept 5 (some b) w2 wr) (fun i _ _ => n - (intOf i).toNat)
    case atStart => exact ⟨0, by omega, rfl, by simpa [numsL] using K5.out, Below.refl _ _, Lib.OthersKept.refl _ _ _⟩
    case round =>
      obtain ⟨k, hk, rfl, hWr, hBr, hOr⟩ := hrel
      have L1 := Lib.hid hWr
      have L2 := Lib.hid hBr
      have L3 := Lib.hid hOr
      have hszr := hBr.size
      clear hWr hBr hOr
      by_cases hlt : k < n
      · have hkL : k < ns.length := by rw [HNL.out]; exact hlt
        obtain ⟨x, hx⟩ : ∃ x, ns[k]? = some x := ⟨_, List.getElem?_eq_getElem hkL⟩
        obtain ⟨b1, o1, rfl, hb0, hb2, ⟨c, T2, fz, hob, hT5⟩, hc⟩ := K7.out (by rw [List.length_map]; omega)
        have hkeep := L3.out b1 _ hob (fun e => by have := Option.some.inj e; omega) (fun c' fz' e => by cases e; exact hT5 rfl)
        have hcx : wr.cell? ⟨b1, o1 + k, none⟩ = some (.int .i64 x) := by
          rw [World.cell?_of_block (hkeep.trans hob.symm)]
          exact hc k (.int .i64 x) (by rw [List.getElem?_map, hx]; rfl)
        have hlt1 : b1 < wr.heap.size := by omega
        have E := Lib.hid (numsL_succ ns k x hx)
        have HPt := Lib.hid (put_any B b (l ++ leB ((j : Int) + 1) 1 ++ numsL (ns.take k)) (IntKind.u64.wrap x) 8 8 (by decide) wr L1.out (u64_u x) (by rw [List.length_append, List.length_append, leB_len, numsL_len, List.length_take]; omega) (by omega))
        clear hx hkL hob hc hkeep
        go_wp2_with fail
        refine HPt.out.mono ?_
        rintro e w3 ⟨rfl, hW3, hB3, hO3⟩
        have P1 := Lib.hid hW3
        have P2 := Lib.hid (L2.out.trans hB3)
        have P3 := Lib.hid (L3.out.trans hO3)
        clear hW3 hB3 hO3 L1 L2 L3 HPt hcx
        go_wp2_with fail
        go_roundw
        case rel => exact ⟨k + 1, by omega, by go_num, by rw [E.out, ← List.append_assoc]; exact P1.out, P2.out, P3.out⟩
        case measure => simp [intOf]; omega
      · obtain rfl : k = n := by omega
        have eL : l ++ leB ((j : Int) + 1) 1 ++ numsL (ns.take k) = l ++ (leB ((j : Int) + 1) 1 ++ numsL ns) := by
          rw [List.take_of_length_le (by rw [HNL.out]; exact Nat.le_refl _), List.append_assoc]
        rw [eL] at L1
        have hpl : (leB ((j : Int) + 1) 1 ++ numsL ns).length ≤ 1 + 8 * k := by rw [List.length_append, leB_len, numsL_len, HNL.out]; exact Nat.le_refl _
        have P2 := Lib.hid (K6.out.trans L2.out)
        have hBr2 : B ≤ wr.heap.size := by omega
        clear L2 L3 K7 K5 K6 eL
        generalize leB ((j : Int) + 1) 1 ++ numsL ns = pn at *
        go_wp2_with fail
        refine (HDt.out _).mono ?_
        rintro e w3 ⟨a2, c2, rfl, r2, M3⟩
        rw [List.length_map, HML.out]
        have P3 := Lib.hid (wr_same L1.out M3)
        have P4 := Lib.hid (P2.out.trans (M3.to_below hBr2))
        have P7 := Lib.hid r2
        have hBw3 : B ≤ w3.heap.size := Nat.le_trans hBr2 M3.size
        clear r2 M3 L1 P2 HDt
        go_wp2_with fail
        go_loopw [42] (fun i wz => ∃ q : Nat, q ≤ m ∧ i = .int .i64 q ∧ WrF wz B b (Lib.byteCells (l ++ pn ++ datsL (ts.take q))) ∧ Below B w3 wz ∧ Lib.OthersKept 5 (some b) w3 wz) (fun i _ => m - (intOf i).toNat)
        case atStart => exact ⟨0, by omega, rfl, by simpa [datsL] using P3.out, Below.refl _ _, Lib.OthersKept.refl _ _ _⟩
        case round =>
          obtain ⟨q, hq, rfl, hWr, hBr, hOr⟩ := hrel
          have L1 := Lib.hid hWr
          have L2 := Lib.hid hBr
          have L3 := Lib.hid hOr
          have hszr3 := hBr.size
          clear hWr hBr hOr
          by_cases hlt : q < m
          · have hkL : q < ts.length := by rw [HML.out]; exact hlt
            obtain ⟨x, hx⟩ : ∃ x, ts[q]? = some x := ⟨_, List.getElem?_eq_getElem hkL⟩
            obtain ⟨b1, o1, rfl, hb0, hb2, ⟨c, T2, fz, hob, hT5⟩, hc⟩ := P7.out (by rw [List.length_map]; omega)
            have hkeep := L3.out b1 _ hob (fun e => by have := Option.some.inj e; omega) (fun c' fz' e => by cases e; exact hT5 rfl)
            have hcx : wr.cell? ⟨b1, o1 + q, none⟩ = some (.string ⟨x.toArray⟩) := by
              rw [World.cell?_of_block (hkeep.trans hob.symm)]
              exact hc q (strV x) (by rw [List.getElem?_map, hx]; rfl)
            have hlt1 : b1 < wr.heap.size := by omega
            have hx5 : x.length ≤ 512 := HFM.out x (List.mem_of_getElem? hx)
            have hbx := bytes_size x
            have E := Lib.hid (datsL_succ ts q x hx)
            have hdl : (datsL (ts.take q)).length ≤ 514 * q := by
              have := datsL_len (ts.take q) (fun t ht => HFM.out t (List.mem_of_mem_take ht))
              rw [List.length_take] at this; omega
            have HPt := Lib.hid (put_any B b (l ++ pn ++ datsL (ts.take q)) (x.length : Int) 2 2 (by decide) wr L1.out (by unfold U64; omega) (by rw [List.length_append, List.length_append]; omega) (by omega))
            have HPs := Lib.hid (fun w h hw => text_any B b (l ++ pn ++ datsL (ts.take q) ++ leB (x.length : Int) 2) ⟨x.toArray⟩ w h (by rw [List.length_append, List.length_append, List.length_append, leB_len, bytes_size]; omega) hw)
            have hxw : IntKind.u64.wrap (x.length : Int) = (x.length : Int) := by unfold IntKind.wrap; simp [IntKind.signed, IntKind.bits]; omega
            clear hx hkL hob hc hkeep hdl
            go_wp2_with fail
            refine HPt.out.mono ?_
            rintro e w4 ⟨rfl, hW3, hB3, hO3⟩
            have Q1 := Lib.hid hW3
            have Q2 := Lib.hid (L2.out.trans hB3)
            have Q3 := Lib.hid (L3.out.trans hO3)
            have hB4 : B ≤ w4.heap.size := Nat.le_trans (by omega) hB3.size
            clear hW3 hB3 hO3 L1 L2 L3 HPt hcx hxw
            go_wp2_with fail
            refine (HPs.out _ Q1.out hB4).mono ?_
            rintro e w5 ⟨rfl, hW3, hB3, hO3⟩
            have U1 := Lib.hid hW3
            have U2 := Lib.hid (Q2.out.trans hB3)
            have U3 := Lib.hid (Q3.out.trans hO3)
            clear hW3 hB3 hO3 Q1 Q2 Q3 HPs
            go_wp2_with fail
            go_roundw
            case rel => exact ⟨q + 1, by omega, by go_num, by rw [E.out]; unfold datL; rw [← List.append_assoc, ← List.append_assoc]; exact U1.out, U2.out, U3.out⟩
            case measure => simp [intOf]; omega
          · obtain rfl : q = m := by omega
            have eL : l ++ pn ++ datsL (ts.take q) = l ++ (pn ++ datsL ts) := by
              rw [List.take_of_length_le (by rw [HML.out]; exact Nat.le_refl _), List.append_assoc]
            rw [eL] at L1
            clear eL
            go_wp2
            exact HR.out _ _ ⟨rfl, L1.out, P4.out.trans L2.out⟩
theorem put_bad (o : OW) (hf : o.form) (hfit : o.fits = false) (w : World) (p : Value) :
    Calls Tryz.prog 48 #[p, ordW o] w fun e w' => e = .returned (.int .i64 1) ∧ Same w w' := by
  refine opq fun R HR => ?_
  have HTx := Lib.hid (text_bad o hf hfit w)
  unfold ordW at HTx ⊢
  generalize ordC o = cs at *
  generalize kT o.k = T at *
  go_enter Tryz.func48, Tryz.ntmps48
  go_wp2_with fail
  refine HTx.out.mono ?_
  rintro e w1 ⟨rfl, M1⟩
  have K1 := Lib.hid M1
  clear M1 HTx
  go_wp2
  exact HR.out _ _ ⟨rfl, K1.out⟩
end Go.Proofs.YtdengmlidckkeaaGreatDoor
namespace Go.Proofs.YtdengmlidckkeaaGreatDoor
open Go Go.RowKit

instance (x y : OW) : Decidable (x = y) := if h : x.k = y.k ∧ x.ns = y.ns ∧ x.ts = y.ts then isTrue (OW.ext' h.1 h.2.1 h.2.2) else isFalse fun e => h (by subst e; exact ⟨rfl, rfl, rfl⟩)
/-- Two orders' form: the same. -/
theorem sameO_eq (x y : OW) : sameO ((x.k : Int) + 1) ((y.k : Int) + 1) x.ns y.ns x.ts y.ts = decide (x = y) := by
  unfold sameO
  by_cases h : x = y
  · subst h; simp
  · rw [decide_eq_false h]
    by_cases h1 : x.k = y.k
    · by_cases h2 : x.ns = y.ns
      · have h3 : ¬ x.ts = y.ts := fun h3 => h (OW.ext' h1 h2 h3)
        simp [h3]
      · simp [h2]
    · have : ¬ ((x.k : Int) + 1 = (y.k : Int) + 1) := by omega
      simp [this]
end Go.Proofs.YtdengmlidckkeaaGreatDoor
namespace Go.Proofs.YtdengmlidckkeaaGreatDoor
open Go Go.RowKit
theorem lens_le (B : Nat) : ∀ (xs : List (List UInt8)), (∀ x ∈ xs, x.length ≤ B) → Lib.lens xs ≤ B * xs.length
  | [], _ => Nat.zero_le _
  | a :: l, h => by
    have h1 := h a (by simp)
    have h2 := lens_le B l fun x hx => h x (by simp [hx])
    unfold Lib.lens at *
    rw [List.map_cons, List.sum_cons, List.length_cons, Nat.mul_add]; omega
theorem text_len (o : OW) (hf : o.form) (hfit : o.fits = true) : (textO o).length ≤ 10000 := by
  have hj := hf.lt
  have hnl3 : o.ns.length ≤ 3 ∧ o.ts.length ≤ 3 := by
    have h1 := hf.nn
    have h2 := hf.nd
    have h3 : ∀ k, k < 15 → nN k ≤ 3 ∧ nD k ≤ 3 := by decide
    have := h3 o.k hj
    omega
  unfold textO
  rw [Lib.join_length]
  have hi : ∀ x ∈ (o.ns.map Lib.itoa ++ o.ts.map runesL), x.length ≤ 1600 := by
    intro x hx
    rcases List.mem_append.1 hx with q | q
    · obtain ⟨n, hn, rfl⟩ := List.mem_map.1 q
      have := hf.i64 n hn
      have := Lib.itoa_length_le n this.1 this.2
      omega
    · obtain ⟨t, ht, rfl⟩ := List.mem_map.1 q
      have := runes_le t
      have h2 := List.all_eq_true.1 hfit t ht
      have h3 : t.length ≤ 512 := of_decide_eq_true h2
      omega
  have hlen : (o.ns.map Lib.itoa ++ o.ts.map runesL).length ≤ 6 := by simp; omega
  have h1 := lens_le 1600 _ hi
  have hw : (wordL o.k).length ≤ 7 := by
    have : ∀ k, k < 15 → (wordL k).length ≤ 7 := by decide
    exact this _ hj
  have e : Lib.lens (wordL o.k :: (o.ns.map Lib.itoa ++ o.ts.map runesL)) = (wordL o.k).length + Lib.lens (o.ns.map Lib.itoa ++ o.ts.map runesL) := by unfold Lib.lens; rw [List.map_cons, List.sum_cons]
  rw [e, List.length_singleton]; omega
/-- A told order is read as it was. -/
theorem parse_told (o : OW) (hf : o.form) (hfit : o.fits = true) (w : World) (hL : LibOK w) : Calls Tryz.prog 17 #[.string ⟨(textO o).toArray⟩] w fun e w' => e = .returned (.tuple #[ordW o, .int .i64 0]) ∧ Same w w' := by
  have := parse_any (textO o) (by have := text_len o hf hfit; omega) w hL
  rw [parse_text o hf hfit] at this
  exact this
theorem ord_small (o : OW) (hf : o.form) : o.ns.length ≤ 1000 ∧ o.ts.length ≤ 1000 := by
  have h1 := hf.nn
  have h2 := hf.nd
  have h3 : ∀ k, k < 15 → nN k ≤ 3 ∧ nD k ≤ 3 := by decide
  have := h3 o.k hf.lt
  omega
/-- What form hands back of two orders, compared. -/
theorem same_ord (x y : OW) (fx : x.form) (fy : y.form) (a1 a2 b1 b2 : Option Addr) (c1 c2 d1 d2 : Nat) (w : World) (hn1 : RowAt w a1 (x.ns.map (Value.int .i64))) (hn2 : RowAt w a2 (y.ns.map (Value.int .i64))) (ht1 : RowAt w b1 (x.ts.map strV)) (ht2 : RowAt w b2 (y.ts.map strV)) :
    Calls Tryz.prog 13 #[.agg #[.int .i64 ((x.k : Int) + 1), .slice a1 (x.ns.map (Value.int .i64)).length c1, .slice b1 (x.ts.map strV).length d1], .agg #[.int .i64 ((y.k : Int) + 1), .slice a2 (y.ns.map (Value.int .i64)).length c2, .slice b2 (y.ts.map strV).length d2]] w fun e w' => e = .returned (.bool (decide (x = y))) ∧ Same w w' := by
  have h := same_any ((x.k : Int) + 1) ((y.k : Int) + 1) x.ns y.ns x.ts y.ts a1 a2 b1 b2 c1 c2 d1 d2 (ord_small x fx).1 (ord_small y fy).1 (ord_small x fx).2 (ord_small y fy).2 w hn1 hn2 ht1 ht2
  rw [sameO_eq] at h
  simp only [List.length_map]
  exact h
end Go.Proofs.YtdengmlidckkeaaGreatDoor
namespace Go.Proofs.YtdengmlidckkeaaGreatDoor
open Go Go.RowKit
theorem packW_ne {o : OW} (hf : o.form) (hfit : o.fits = true) : packW o ≠ [] := by
  intro e; have := (packW_len o hf hfit).1; rw [e] at this; simp at this
theorem ordW_if (o : OW) : ∃ T x, ordW o = .iface T x := ⟨_, _, rfl⟩
set_option maxRecDepth 10000 in
theorem bytes_ok (o : OW) (hf : o.form) (hfit : o.fits = true) (w : World) (hT : TabOK w) : Calls Tryz.prog 22 #[ordW o] w fun e w' => e = .returned (.tuple #[.string ⟨(packW o).toArray⟩, .int .i64 0]) ∧ Same w w' := by
  refine opq fun R HR => ?_
  have HPt := Lib.hid (fun w hT B b l hW h1 h2 h3 => put_ok o hf hfit w hT B b l hW h1 h2 h3)
  have HNe := Lib.hid (packW_ne hf hfit)
  have h4 := tab_lt hT
  have HT := Lib.hid (tab_same hT ((Mod.refl (fun _ => False) w).alloc (.cells #[.pointer none, .slice none 0 0] 115)))
  obtain ⟨T, x, hv⟩ := ordW_if o
  rw [hv] at HPt ⊢
  clear hT hv hf hfit
  have H0 := Lib.hid (wr_new w w.heap.size (Nat.le_refl _))
  have B0 := Lib.hid (Below.alloc (Below.refl w.heap.size w) (Nat.le_refl _) (.cells #[.pointer none, .slice none 0 0] 115))
  have hsz : w.heap.size ≤ (w.alloc (.cells #[.pointer none, .slice none 0 0] 115)).heap.size := B0.out.size
  go_enter Tryz.func22, Tryz.ntmps22
  go_wp2_with fail
  generalize w.alloc _ = W at *
  generalize hZ : w.heap.size = Z at *
  refine (HPt.out W HT.out Z Z [] H0.out (by simp) hsz h4).mono ?_
  rintro e w1 ⟨rfl, h1, h2⟩
  rw [List.nil_append] at h1
  have K1 := Lib.hid h1
  have K2 := Lib.hid (B0.out.trans h2)
  clear h1 h2 H0 B0 HPt
  go_wp2_with fail
  refine (string_any Z Z _ w1 K1.out HNe.out).mono ?_
  rintro e w2 ⟨rfl, h1⟩
  have K3 := Lib.hid (K2.out.trans h1)
  clear h1
  go_wp2
  exact HR.out _ _ ⟨rfl, Same.of_below (by rw [hZ]; exact K3.out)⟩
theorem bytes_bad (o : OW) (hf : o.form) (hfit : o.fits = false) (w : World) : Calls Tryz.prog 22 #[ordW o] w fun e w' => e = .returned (.tuple #[.string ⟨#[]⟩, .int .i64 1]) ∧ Same w w' := by
  refine opq fun R HR => ?_
  have HPt := Lib.hid (fun w p => put_bad o hf hfit w p)
  obtain ⟨T, x, hv⟩ := ordW_if o
  rw [hv] at HPt ⊢
  clear hv hf hfit
  have B0 := Lib.hid ((Mod.refl (fun _ => False) w).alloc (.cells #[.pointer none, .slice none 0 0] 115))
  go_enter Tryz.func22, Tryz.ntmps22
  go_wp2_with fail
  generalize w.alloc _ = W at *
  refine (HPt.out W _).mono ?_
  rintro e w1 ⟨rfl, M1⟩
  have K2 := Lib.hid (B0.out.same M1)
  clear M1 B0 HPt
  go_wp2
  exact HR.out _ _ ⟨rfl, K2.out⟩
/-- Orders told alike are the same. -/
theorem alike_ow (x y : OW) (fx : x.form) (fy : y.form) (tx : x.fits = true) (ty : y.fits = true) (w : World) (hT : TabOK w) : Calls Tryz.prog 31 #[ordW x, ordW y] w fun e w' => e = .returned (.bool (decide (x = y))) ∧ Same w w' := by
  refine opq fun R HR => ?_
  have HT1 := Lib.hid (fun (w : World) (hL : TabOK w) => text_ok x fx tx w hL)
  have HT2 := Lib.hid (fun (w : World) (hL : TabOK w) => text_ok y fy ty w hL)
  have hd : (textO x == textO y) = decide (x = y) := by
    by_cases h : x = y
    · subst h; simp
    · rw [decide_eq_false h]
      have : ¬ textO x = textO y := fun e => h (text_inj x y fx fy tx ty e)
      simpa using this
  have HT := Lib.hid hT
  obtain ⟨Tx, vx, hvx⟩ := ordW_if x
  obtain ⟨Ty, vy, hvy⟩ := ordW_if y
  rw [hvx] at HT1 ⊢
  rw [hvy] at HT2 ⊢
  clear hvx hvy fx fy tx ty hT
  generalize decide (x = y) = dxy at *
  generalize textO x = ux at *
  generalize textO y = uy at *
  go_enter Tryz.func31, Tryz.ntmps31
  go_wp2_with fail
  refine (HT1.out _ HT.out).mono ?_
  rintro e w1 ⟨rfl, M1⟩
  have K1 := Lib.hid M1
  clear M1
  go_wp2_with fail
  refine (HT2.out _ (tab_same HT.out K1.out)).mono ?_
  rintro e w2 ⟨rfl, M2⟩
  have K2 := Lib.hid (K1.out.same M2)
  clear M2
  go_wp2
  exact HR.out _ _ ⟨rfl, K2.out⟩
/-- All orders' bytes. -/
def allW (L : List OW) : List UInt8 := leB (L.length : Int) 2 ++ L.flatMap packW
theorem flatW_take (L : List OW) (k : Nat) (o : OW) (h : L[k]? = some o) : (L.take (k + 1)).flatMap packW = (L.take k).flatMap packW ++ packW o := by
  obtain ⟨hk, rfl⟩ := List.getElem?_eq_some_iff.1 h
  rw [List.take_succ_eq_append_getElem hk, List.flatMap_append]; simp
theorem flatW_len : ∀ (L : List OW), (∀ o ∈ L, o.form ∧ o.fits = true) → (L.flatMap packW).length ≤ 1600 * L.length
  | [], _ => by simp
  | a :: l, h => by
    have h1 := (packW_len a (h a (by simp)).1 (h a (by simp)).2).2
    have h2 := flatW_len l (fun o ho => h o (by simp [ho]))
    rw [List.flatMap_cons, List.length_append, List.length_cons]; omega
theorem allW_len (L : List OW) (h : ∀ o ∈ L, o.form ∧ o.fits = true) : (allW L).length ≤ 2 + 1600 * L.length := by
  have := flatW_len L h
  unfold allW; rw [List.length_append, leB_len]; omega
set_option maxRecDepth 10000 in
set_option maxHeartbeats 1000000 in
theorem all_ow (L : List OW) (hL : ∀ o ∈ L, o.form ∧ o.fits = true) (a : Option Addr) (n c : Nat) (hn : L.length = n) (hn4 : n ≤ 400) (w : World) (hT : TabOK w) (hc : RowAt w a (L.map ordW)) :
    Calls Tryz.prog 25 #[.slice a n c] w fun e w' => e = .returned (.tuple #[.string ⟨(sealL (allW L)).toArray⟩, .int .i64 0]) ∧ Same w w' := by
  refine opq fun R HR => ?_
  have HL := Lib.hid hL
  have HN := Lib.hid hn
  have HT := Lib.hid hT
  have HC := Lib.hid hc
  have h4 := tab_lt hT
  clear hL hn hT hc
  have H0 := Lib.hid (wr_new w w.heap.size (Nat.le_refl _))
  have B0 := Lib.hid (Below.alloc (Below.refl w.heap.size w) (Nat.le_refl _) (.cells #[.pointer none, .slice none 0 0] 115))
  have hnn : U64 (n : Int) := by unfold U64; omega
  go_enter Tryz.func25, Tryz.ntmps25
  go_wp2_with fail
  have hW0 : w.heap.size ≤ (w.alloc (.cells #[.pointer none, .slice none 0 0] 115)).heap.size := B0.out.size
  generalize w.alloc _ = W at *
  generalize hZ : w.heap.size = Z at *
  refine (put_any Z Z [] (n : Int) 2 2 (by decide) W H0.out hnn (by simp) hW0).mono ?_
  rintro e w1 ⟨rfl, h1, h2, _⟩
  rw [List.nil_append] at h1
  have K1 := Lib.hid h1
  have K2 := Lib.hid (B0.out.trans h2)
  clear h1 h2 H0 B0
  go_wp2_with fail
  go_loopw [17, 6, 7] (fun i _ _ wr => ∃ k : Nat, k ≤ n ∧ i = .int .i64 k ∧ WrF wr Z Z (Lib.byteCells (leB (n : Int) 2 ++ (L.take k).flatMap packW)) ∧ Below Z w wr) (fun i _ _ _ => n - (intOf i).toNat)
  case atStart => exact ⟨0, by omega, rfl, by simpa using K1.out, K2.out⟩
  case round =>
    obtain ⟨k, hk, rfl, hW, hB⟩ := hrel
    have L1 := Lib.hid hW
    have L2 := Lib.hid hB
    have hszr : Z ≤ wr.heap.size := by rw [← hZ]; exact hB.size
    clear hW hB
    by_cases hlt : k < n
    · have hkL : k < L.length := by rw [HN.out]; exact hlt
      obtain ⟨o, ho⟩ : ∃ o, L[k]? = some o := ⟨_, List.getElem?_eq_getElem hkL⟩
      have hok := HL.out o (List.mem_of_getElem? ho)
      obtain ⟨b, o0, rfl, hb, hcc⟩ := HC.out (by rw [List.length_map]; omega)
      have hcx := (World.cell?_of_block (w := w) (L2.out.block b (by omega))).trans (hcc k (ordW o) (by rw [List.getElem?_map, ho]; rfl))
      have E := Lib.hid (flatW_take L k o ho)
      have hlk : ((L.take k).flatMap packW).length ≤ 1600 * k := by
        have := flatW_len (L.take k) (fun o ho => HL.out o (List.mem_of_mem_take ho))
        rw [List.length_take] at this; omega
      have HPt := Lib.hid (put_ok o hok.1 hok.2 wr (tab_below HT.out L2.out (by omega)) Z Z _ L1.out (by rw [List.length_append, leB_len]; omega) hszr (by omega))
      have hbr : b < wr.heap.size := by omega
      have hk1 : (0 : Int) ≤ (k : Int) := by omega
      have hk2 : (k : Int) < (n : Int) := by omega
      obtain ⟨T, x, hv⟩ := ordW_if o
      rw [hv] at hcx HPt
      clear ho hkL hok hv hlk hcc
      go_wp2_with fail
      refine HPt.out.mono ?_
      rintro e w2 ⟨rfl, h1, h2⟩
      have P1 := Lib.hid h1
      have P2 := Lib.hid (L2.out.trans h2)
      clear h1 h2 L1 L2 HPt hcx
      go_wp2_with fail
      go_roundw
      case rel => exact ⟨k + 1, by omega, by go_num, by rw [E.out, ← List.append_assoc]; exact P1.out, P2.out⟩
      case measure => simp [intOf]; omega
    · obtain rfl : k = n := by omega
      have eL : leB (k : Int) 2 ++ (L.take k).flatMap packW = allW L := by
        unfold allW; rw [HN.out, List.take_of_length_le (by rw [HN.out]; exact Nat.le_refl _)]
      rw [eL] at L1
      have hne : allW L ≠ [] := by
        intro e; have := congrArg List.length e; unfold allW at this; rw [List.length_append, leB_len] at this; simp at this
      have hlen := allW_len L HL.out
      rw [HN.out] at hlen
      have HS := Lib.hid (fun w => string_any Z Z (allW L) w)
      have HE := Lib.hid (fun w => seal_any ⟨(allW L).toArray⟩ w (by rw [bytes_size]; omega))
      have hZ2 := Lib.hid hZ
      clear eL hlen hZ
      generalize allW L = al at *
      go_wp2_with fail
      refine (HS.out _ L1.out hne).mono ?_
      rintro e w2 ⟨rfl, h1⟩
      have P1 := Lib.hid (L2.out.trans h1)
      clear h1 L1 L2 HS
      go_wp2_with fail
      refine (HE.out _).mono ?_
      rintro e w3 ⟨rfl, M3⟩
      have P2 := Lib.hid ((Same.of_below (by rw [hZ2.out]; exact P1.out) : Same w w2).same M3)
      clear M3 P1 HE
      go_wp2
      exact HR.out _ _ ⟨rfl, P2.out⟩
end Go.Proofs.YtdengmlidckkeaaGreatDoor
namespace Go.Proofs.YtdengmlidckkeaaGreatDoor
open Go Go.RowKit
def gNum (l : List UInt8) : Option (Int × List UInt8) := if l.length < 8 then none else some (IntKind.i64.wrap (leV (l.take 8)), l.drop 8)
def gLen (l : List UInt8) : Nat := (leV (l.take 2)).toNat
def gTxt (l : List UInt8) : Option (List UInt8 × List UInt8) :=
  if l.length < 2 then none else if 512 < gLen l ∨ l.length - 2 < gLen l then none else some ((l.drop 2).take (gLen l), (l.drop 2).drop (gLen l))
def gNums : Nat → List UInt8 → Option (List Int × List UInt8)
  | 0, l => some ([], l)
  | n + 1, l => match gNum l with
    | none => none
    | some (x, r) => match gNums n r with
      | none => none
      | some (xs, q) => some (x :: xs, q)
def gTxts : Nat → List UInt8 → Option (List (List UInt8) × List UInt8)
  | 0, l => some ([], l)
  | n + 1, l => match gTxt l with
    | none => none
    | some (x, r) => match gTxts n r with
      | none => none
      | some (xs, q) => some (x :: xs, q)
/-- The order with which bytes begin, and what is left behind it. -/
def gOrd : List UInt8 → Option (OW × List UInt8)
  | [] => none
  | b :: l => if b.toNat = 0 ∨ 15 < b.toNat then none else match gNums (nN (b.toNat - 1)) l with
    | none => none
    | some (ns, r) => match gTxts (nD (b.toNat - 1)) r with
      | none => none
      | some (ts, q) => some (⟨b.toNat - 1, ns, ts⟩, q)
theorem gOrd_cons (b : UInt8) (l : List UInt8) : gOrd (b :: l) = if b.toNat = 0 ∨ 15 < b.toNat then none else match gNums (nN (b.toNat - 1)) l with
    | none => none
    | some (ns, r) => match gTxts (nD (b.toNat - 1)) r with
      | none => none
      | some (ts, q) => some (⟨b.toNat - 1, ns, ts⟩, q) := rfl
def ES.wrong (s : ES) : Prop := s.sh = true ∨ s.bad = true
def ES.good (s : ES) : Prop := s.sh = false ∧ s.bad = false
theorem good_not {s : ES} (h : s.good) : ¬ s.wrong := by
  obtain ⟨a, b⟩ := h
  unfold ES.wrong
  rw [a, b]; simp
theorem takeL_sh (l : List UInt8) (n : Nat) : (takeL l true n).2.2 = true := by unfold takeL; split <;> rfl
theorem num_wrong {s : ES} (h : s.wrong) : (numS s).2.wrong := by
  rcases h with h | h
  · left; show (takeL s.l s.sh 8).2.2 = true; rw [h]; exact takeL_sh _ _
  · right; exact h
theorem txt_wrong {s : ES} (h : s.wrong) : (txtS s).2.wrong := by
  rcases h with h | h
  · left; show (takeL (takeL s.l s.sh 2).2.1 (takeL s.l s.sh 2).2.2 (lenS s)).2.2 = true; rw [h, takeL_sh]; exact takeL_sh _ _
  · right; show (s.bad || _) = true; rw [h]; rfl
theorem nums_wrong : ∀ (n : Nat) {s : ES}, s.wrong → (numsS n s).2.wrong
  | 0, _, h => h
  | n + 1, _, h => nums_wrong n (num_wrong h)
theorem txts_wrong : ∀ (n : Nat) {s : ES}, s.wrong → (txtsS n s).2.wrong
  | 0, _, h => h
  | n + 1, _, h => txts_wrong n (txt_wrong h)
theorem hed_wrong {s : ES} (h : s.wrong) : (hedS s).wrong := by
  rcases h with h | h
  · left; show (takeL s.l s.sh 1).2.2 = true; rw [h]; exact takeL_sh _ _
  · right; exact h
theorem ord_wrong {s : ES} (h : s.wrong) : (ordS s).2.wrong := by
  unfold ordS
  split
  · right; rfl
  · exact txts_wrong _ (nums_wrong _ (hed_wrong h))
theorem takeL_in {l : List UInt8} {n : Nat} (sh : Bool) (h : n ≤ l.length) : takeL l sh n = (l.take n, l.drop n, sh) := by unfold takeL; rw [if_pos h]
theorem takeL_out {l : List UInt8} {n : Nat} (sh : Bool) (h : ¬ n ≤ l.length) : takeL l sh n = ([], [], true) := by unfold takeL; rw [if_neg h]
theorem num_good {s : ES} (h : s.good) : match gNum s.l with
    | none => (numS s).2.wrong
    | some (x, r) => (numS s).1 = x ∧ (numS s).2.l = r ∧ (numS s).2.good := by
  unfold gNum
  by_cases hl : s.l.length < 8
  · rw [if_pos hl]; left; show (takeL s.l s.sh 8).2.2 = true; rw [takeL_out s.sh (show ¬ 8 ≤ s.l.length by omega)]
  · rw [if_neg hl]
    have e := takeL_in s.sh (show 8 ≤ s.l.length by omega)
    refine ⟨?_, ?_, ?_, h.2⟩
    · show IntKind.i64.wrap (leV (takeL s.l s.sh 8).1) = _; rw [e]
    · show (takeL s.l s.sh 8).2.1 = _; rw [e]
    · show (takeL s.l s.sh 8).2.2 = _; rw [e]; exact h.1
theorem txt_good {s : ES} (h : s.good) : match gTxt s.l with
    | none => (txtS s).2.wrong
    | some (x, r) => (txtS s).1 = x ∧ (txtS s).2.l = r ∧ (txtS s).2.good := by
  unfold gTxt
  by_cases hl : s.l.length < 2
  · rw [if_pos hl]; left; show (takeL (takeL s.l s.sh 2).2.1 (takeL s.l s.sh 2).2.2 (lenS s)).2.2 = true; rw [takeL_out s.sh (show ¬ 2 ≤ s.l.length by omega)]; exact takeL_sh _ _
  · rw [if_neg hl]
    have e := takeL_in s.sh (show 2 ≤ s.l.length by omega)
    have en : lenS s = gLen s.l := by unfold lenS gLen; rw [e]
    by_cases h5 : 512 < gLen s.l
    · rw [if_pos (.inl h5)]; right; show (s.bad || decide (512 < lenS s)) = true; rw [en, decide_eq_true h5]; simp
    · by_cases h6 : s.l.length - 2 < gLen s.l
      · rw [if_pos (.inr h6)]; left; show (takeL (takeL s.l s.sh 2).2.1 (takeL s.l s.sh 2).2.2 (lenS s)).2.2 = true
        rw [e, en, takeL_out _ (by dsimp only; rw [List.length_drop]; omega)]
      · rw [if_neg (by omega)]
        have e2 := takeL_in s.sh (show gLen s.l ≤ (s.l.drop 2).length by rw [List.length_drop]; omega)
        refine ⟨?_, ?_, ?_, ?_⟩
        · show (takeL (takeL s.l s.sh 2).2.1 (takeL s.l s.sh 2).2.2 (lenS s)).1 = _; rw [e, en, e2]
        · show (takeL (takeL s.l s.sh 2).2.1 (takeL s.l s.sh 2).2.2 (lenS s)).2.1 = _; rw [e, en, e2]
        · show (takeL (takeL s.l s.sh 2).2.1 (takeL s.l s.sh 2).2.2 (lenS s)).2.2 = _; rw [e, en, e2]; exact h.1
        · show (s.bad || decide (512 < lenS s)) = false; rw [en, decide_eq_false h5, h.2]; rfl
theorem nums_good : ∀ (n : Nat) (s : ES), s.good → match gNums n s.l with
    | none => (numsS n s).2.wrong
    | some (x, r) => (numsS n s).1 = x ∧ (numsS n s).2.l = r ∧ (numsS n s).2.good
  | 0, s, h => ⟨rfl, rfl, h⟩
  | n + 1, s, h => by
    have h1 := num_good h
    unfold gNums numsS
    cases hg : gNum s.l with
    | none => rw [hg] at h1; exact nums_wrong n h1
    | some p =>
      obtain ⟨x, r⟩ := p
      rw [hg] at h1
      obtain ⟨e1, e2, e3⟩ := h1
      have h2 := nums_good n (numS s).2 e3
      rw [e2] at h2
      dsimp only
      cases hg2 : gNums n r with
      | none => rw [hg2] at h2; exact h2
      | some p =>
        obtain ⟨xs, q⟩ := p
        rw [hg2] at h2
        obtain ⟨f1, f2, f3⟩ := h2
        exact ⟨by rw [e1, f1], f2, f3⟩
theorem txts_good : ∀ (n : Nat) (s : ES), s.good → match gTxts n s.l with
    | none => (txtsS n s).2.wrong
    | some (x, r) => (txtsS n s).1 = x ∧ (txtsS n s).2.l = r ∧ (txtsS n s).2.good
  | 0, s, h => ⟨rfl, rfl, h⟩
  | n + 1, s, h => by
    have h1 := txt_good h
    unfold gTxts txtsS
    cases hg : gTxt s.l with
    | none => rw [hg] at h1; exact txts_wrong n h1
    | some p =>
      obtain ⟨x, r⟩ := p
      rw [hg] at h1
      obtain ⟨e1, e2, e3⟩ := h1
      have h2 := txts_good n (txtS s).2 e3
      rw [e2] at h2
      dsimp only
      cases hg2 : gTxts n r with
      | none => rw [hg2] at h2; exact h2
      | some p =>
        obtain ⟨xs, q⟩ := p
        rw [hg2] at h2
        obtain ⟨f1, f2, f3⟩ := h2
        exact ⟨by rw [e1, f1], f2, f3⟩
theorem ord_good (s : ES) (h : s.good) : match gOrd s.l with
    | none => (ordS s).2.wrong
    | some (o, r) => (ordS s).1 = some o ∧ (ordS s).2.l = r ∧ (ordS s).2.good := by
  cases hl : s.l with
  | nil =>
    have hk : kinS s = 0 := by unfold kinS; rw [hl]; rfl
    show (ordS s).2.wrong
    unfold ordS
    rw [if_pos (.inl hk)]; right; rfl
  | cons b l =>
    have e : takeL s.l s.sh 1 = ([b], l, s.sh) := by rw [takeL_in _ (by rw [hl]; simp), hl]; rfl
    have hk : kinS s = b.toNat := by
      unfold kinS; rw [e]; show ((b.toNat : Int) + 256 * 0).toNat = _; omega
    have hh : hedS s = ⟨l, s.sh, s.u + 1, s.bad⟩ := by unfold hedS; rw [e]
    unfold gOrd ordS
    rw [hk]
    by_cases hb : b.toNat = 0 ∨ 15 < b.toNat
    · simp only [if_pos hb]; right; rfl
    · simp only [if_neg hb]
      have hg : (hedS s).good := by rw [hh]; exact h
      have h1 := nums_good (nN (b.toNat - 1)) (hedS s) hg
      rw [show (hedS s).l = l by rw [hh]] at h1
      cases hg1 : gNums (nN (b.toNat - 1)) l with
      | none => rw [hg1] at h1; exact txts_wrong _ h1
      | some p =>
        obtain ⟨ns, r⟩ := p
        rw [hg1] at h1
        obtain ⟨e1, e2, e3⟩ := h1
        have h2 := txts_good (nD (b.toNat - 1)) _ e3
        rw [e2] at h2
        dsimp only
        cases hg2 : gTxts (nD (b.toNat - 1)) r with
        | none => rw [hg2] at h2; exact h2
        | some p =>
          obtain ⟨ts, q⟩ := p
          rw [hg2] at h2
          obtain ⟨f1, f2, f3⟩ := h2
          exact ⟨by rw [e1, f1], f2, f3⟩
/-- How many bytes were used, and how many there were. -/
def ES.inv (L : Int) (s : ES) : Prop := (s.sh = false → s.u + s.l.length = L) ∧ (s.sh = true → L < s.u)
theorem take_inv {L u : Int} {l : List UInt8} {sh : Bool} (n : Nat) (h1 : sh = false → u + l.length = L) (h2 : sh = true → L < u) : ((takeL l sh n).2.2 = false → u + n + (takeL l sh n).2.1.length = L) ∧ ((takeL l sh n).2.2 = true → L < u + n) := by
  unfold takeL
  by_cases h : n ≤ l.length
  · rw [if_pos h]
    dsimp only
    refine ⟨fun q => ?_, fun q => ?_⟩
    · have := h1 q; rw [List.length_drop]; omega
    · have := h2 q; omega
  · rw [if_neg h]
    dsimp only
    refine ⟨(fun q => by cases q), fun _ => ?_⟩
    cases sh with
    | false => have := h1 rfl; omega
    | true => have := h2 rfl; omega
theorem num_inv {L : Int} {s : ES} (h : s.inv L) : (numS s).2.inv L := by
  have := take_inv 8 h.1 h.2
  exact this
theorem hed_inv {L : Int} {s : ES} (h : s.inv L) : (hedS s).inv L := by
  have := take_inv 1 h.1 h.2
  exact this
theorem txt_inv {L : Int} {s : ES} (h : s.inv L) : (txtS s).2.inv L := by
  have h1 := take_inv 2 h.1 h.2
  have h2 := take_inv (u := s.u + 2) (lenS s) h1.1 h1.2
  exact h2
theorem nums_inv {L : Int} : ∀ (n : Nat) {s : ES}, s.inv L → (numsS n s).2.inv L
  | 0, _, h => h
  | n + 1, _, h => nums_inv n (num_inv h)
theorem txts_inv {L : Int} : ∀ (n : Nat) {s : ES}, s.inv L → (txtsS n s).2.inv L
  | 0, _, h => h
  | n + 1, _, h => txts_inv n (txt_inv h)
theorem ord_inv {L : Int} {s : ES} (h : s.inv L) : (ordS s).2.inv L := by
  unfold ordS
  split
  · exact hed_inv h
  · exact txts_inv _ (nums_inv _ (hed_inv h))
theorem nums_ok : ∀ (n : Nat) {c : Nat} {s : ES}, s.ok (c + n) → (numsS n s).2.ok c
  | 0, _, _, h => h
  | n + 1, c, _, h => nums_ok n (num_ok (c := c + n) h)
theorem txts_ok : ∀ (n : Nat) {c : Nat} {s : ES}, s.ok (c + n) → (txtsS n s).2.ok c
  | 0, _, _, h => h
  | n + 1, c, _, h => txts_ok n (txt_ok (c := c + n) h)
theorem ord_ok {c : Nat} {s : ES} (h : s.ok (c + 7)) : (ordS s).2.ok c := by
  have h0 := hed_ok (c := c + 6) h
  unfold ordS
  split
  · exact ok_less h0 (by omega)
  · have hk : kinS s - 1 < 15 := by omega
    have h3 : ∀ k, k < 15 → nN k ≤ 3 ∧ nD k ≤ 3 := by decide
    have h4 := h3 _ hk
    exact txts_ok _ (nums_ok _ (ok_less h0 (by omega)))
/-- What was packed is read as it was. -/
theorem gNums_back : ∀ (ns : List Int) (r : List UInt8), (∀ n ∈ ns, I64 n) → gNums ns.length (numsL ns ++ r) = some (ns, r)
  | [], r, _ => rfl
  | x :: ns, r, h => by
    have e : numsL (x :: ns) ++ r = leB (IntKind.u64.wrap x) 8 ++ (numsL ns ++ r) := by unfold numsL; rw [List.flatMap_cons, List.append_assoc]
    have hl := leB_len (IntKind.u64.wrap x) 8
    have hg : gNum (leB (IntKind.u64.wrap x) 8 ++ (numsL ns ++ r)) = some (x, numsL ns ++ r) := by
      unfold gNum
      rw [if_neg (by rw [List.length_append, hl]; omega), List.take_left' hl, List.drop_left' hl, back_i64 x (h x (by simp))]
    rw [e, List.length_cons]
    unfold gNums
    rw [hg]
    dsimp only
    rw [gNums_back ns r fun n hn => h n (by simp [hn])]
theorem gTxts_back : ∀ (ts : List (List UInt8)) (r : List UInt8), (∀ t ∈ ts, t.length ≤ 512) → gTxts ts.length (datsL ts ++ r) = some (ts, r)
  | [], r, _ => rfl
  | x :: ts, r, h => by
    have e : datsL (x :: ts) ++ r = leB (x.length : Int) 2 ++ (x ++ (datsL ts ++ r)) := by unfold datsL; rw [List.flatMap_cons]; unfold datL; simp only [List.append_assoc]
    have hl := leB_len (x.length : Int) 2
    have hx := h x (by simp)
    have hgl : gLen (leB (x.length : Int) 2 ++ (x ++ (datsL ts ++ r))) = x.length := by
      unfold gLen
      rw [List.take_left' hl, leV_leB _ (by omega)]
      have : (256 : Int) ^ 2 = 65536 := by decide
      rw [this]; omega
    have hg : gTxt (leB (x.length : Int) 2 ++ (x ++ (datsL ts ++ r))) = some (x, datsL ts ++ r) := by
      unfold gTxt
      rw [hgl, if_neg (by rw [List.length_append, hl]; omega), if_neg (by rw [List.length_append, List.length_append, hl]; omega), List.drop_left' hl, List.take_left' rfl, List.drop_left' rfl]
    rw [e, List.length_cons]
    unfold gTxts
    rw [hg]
    dsimp only
    rw [gTxts_back ts r fun n hn => h n (by simp [hn])]
theorem gOrd_back (o : OW) (hf : o.form) (hfit : o.fits = true) (r : List UInt8) : gOrd (packW o ++ r) = some (o, r) := by
  have hk := hf.lt
  have e1 : leB ((o.k : Int) + 1) 1 = [UInt8.ofNat (o.k + 1)] := by
    have : ∀ k : Nat, k < 15 → leB ((k : Int) + 1) 1 = [UInt8.ofNat (k + 1)] := by decide
    exact this _ hk
  have e : packW o ++ r = UInt8.ofNat (o.k + 1) :: (numsL o.ns ++ (datsL o.ts ++ r)) := by
    unfold packW packN; rw [e1]; simp
  have hb : (UInt8.ofNat (o.k + 1)).toNat = o.k + 1 := by rw [UInt8.toNat_ofNat']; omega
  rw [e, gOrd_cons, hb, if_neg (by omega), show o.k + 1 - 1 = o.k by omega, ← hf.nn, gNums_back o.ns _ hf.i64]
  dsimp only
  rw [← hf.nd, gTxts_back o.ts _ (fits_mem hfit)]
theorem wrap_i64 (n : Int) : I64 (IntKind.i64.wrap n) := by unfold I64 IntKind.wrap; simp [IntKind.signed, IntKind.bits]; omega
theorem gNums_form : ∀ (n : Nat) (l : List UInt8) (ns : List Int) (r : List UInt8), gNums n l = some (ns, r) → ns.length = n ∧ ∀ x ∈ ns, I64 x
  | 0, l, ns, r, h => by cases h; exact ⟨rfl, fun x hx => by cases hx⟩
  | n + 1, l, ns, r, h => by
    unfold gNums at h
    cases hg : gNum l with
    | none => rw [hg] at h; cases h
    | some p =>
      obtain ⟨x, q⟩ := p
      rw [hg] at h
      dsimp only at h
      cases hg2 : gNums n q with
      | none => rw [hg2] at h; cases h
      | some p =>
        obtain ⟨xs, q2⟩ := p
        rw [hg2] at h
        cases h
        obtain ⟨h1, h2⟩ := gNums_form n q xs r hg2
        refine ⟨by rw [List.length_cons, h1], fun y hy => ?_⟩
        rcases List.mem_cons.1 hy with rfl | hy
        · unfold gNum at hg
          split at hg
          · cases hg
          · cases hg; exact wrap_i64 _
        · exact h2 y hy
theorem gTxts_form : ∀ (n : Nat) (l : List UInt8) (ts : List (List UInt8)) (r : List UInt8), gTxts n l = some (ts, r) → ts.length = n ∧ ∀ x ∈ ts, x.length ≤ 512
  | 0, l, ts, r, h => by cases h; exact ⟨rfl, fun x hx => by cases hx⟩
  | n + 1, l, ts, r, h => by
    unfold gTxts at h
    cases hg : gTxt l with
    | none => rw [hg] at h; cases h
    | some p =>
      obtain ⟨x, q⟩ := p
      rw [hg] at h
      dsimp only at h
      cases hg2 : gTxts n q with
      | none => rw [hg2] at h; cases h
      | some p =>
        obtain ⟨xs, q2⟩ := p
        rw [hg2] at h
        cases h
        obtain ⟨h1, h2⟩ := gTxts_form n q xs r hg2
        refine ⟨by rw [List.length_cons, h1], fun y hy => ?_⟩
        rcases List.mem_cons.1 hy with rfl | hy
        · unfold gTxt at hg
          split at hg
          · cases hg
          · split at hg
            · cases hg
            · cases hg; rw [List.length_take]; omega
        · exact h2 y hy
theorem gOrd_form {l : List UInt8} {o : OW} {r : List UInt8} (h : gOrd l = some (o, r)) : o.form ∧ o.fits = true := by
  cases l with
  | nil => cases h
  | cons b l =>
    rw [gOrd_cons] at h
    split at h
    · cases h
    · rename_i hb
      cases hg : gNums (nN (b.toNat - 1)) l with
      | none => rw [hg] at h; cases h
      | some p =>
        obtain ⟨ns, q⟩ := p
        rw [hg] at h
        dsimp only at h
        cases hg2 : gTxts (nD (b.toNat - 1)) q with
        | none => rw [hg2] at h; cases h
        | some p =>
          obtain ⟨ts, q2⟩ := p
          rw [hg2] at h
          cases h
          have h1 := gNums_form _ _ _ _ hg
          have h2 := gTxts_form _ _ _ _ hg2
          exact ⟨⟨show b.toNat - 1 < 15 by omega, h1.1, h2.1, h1.2⟩, by
            unfold OW.fits
            exact List.all_eq_true.2 fun t ht => decide_eq_true (h2.2 t ht)⟩
/-- Many orders. -/
def gOrds : Nat → List UInt8 → Option (List OW × List UInt8)
  | 0, l => some ([], l)
  | n + 1, l => match gOrd l with
    | none => none
    | some (x, r) => match gOrds n r with
      | none => none
      | some (xs, q) => some (x :: xs, q)
def ordsS : Nat → ES → List (Option OW) × ES
  | 0, s => ([], s)
  | n + 1, s => ((ordsS n s).1 ++ [(ordS (ordsS n s).2).1], (ordS (ordsS n s).2).2)
theorem ordsS_len (n : Nat) (s : ES) : (ordsS n s).1.length = n := by
  induction n with
  | zero => rfl
  | succ n ih => unfold ordsS; rw [List.length_append, ih]; rfl
theorem ordsS_head : ∀ (n : Nat) (s : ES), ordsS (n + 1) s = ((ordS s).1 :: (ordsS n (ordS s).2).1, (ordsS n (ordS s).2).2)
  | 0, s => rfl
  | n + 1, s => by
    have ih := ordsS_head n s
    rw [ordsS, ih]
    show _ = (_ :: ((ordsS n (ordS s).2).1 ++ _), _)
    rfl
theorem ords_wrong : ∀ (n : Nat) {s : ES}, s.wrong → (ordsS n s).2.wrong
  | 0, _, h => h
  | n + 1, s, h => by rw [ordsS_head]; exact ords_wrong n (ord_wrong h)
theorem ords_ok (n : Nat) {c : Nat} {s : ES} (h : s.ok (c + 7 * n)) : (ordsS n s).2.ok c := by
  induction n generalizing c with
  | zero => exact h
  | succ n ih => exact ord_ok (ih (c := c + 7) (ok_less h (by omega)))
theorem ords_good : ∀ (n : Nat) (s : ES), s.good → match gOrds n s.l with
    | none => (ordsS n s).2.wrong
    | some (x, r) => (ordsS n s).1 = x.map some ∧ (ordsS n s).2.l = r ∧ (ordsS n s).2.good
  | 0, s, h => ⟨rfl, rfl, h⟩
  | n + 1, s, h => by
    have h1 := ord_good s h
    rw [ordsS_head]
    unfold gOrds
    cases hg : gOrd s.l with
    | none => rw [hg] at h1; exact ords_wrong n h1
    | some p =>
      obtain ⟨x, r⟩ := p
      rw [hg] at h1
      obtain ⟨e1, e2, e3⟩ := h1
      have h2 := ords_good n (ordS s).2 e3
      rw [e2] at h2
      dsimp only
      cases hg2 : gOrds n r with
      | none => rw [hg2] at h2; exact h2
      | some p =>
        obtain ⟨xs, q⟩ := p
        rw [hg2] at h2
        obtain ⟨f1, f2, f3⟩ := h2
        exact ⟨by rw [e1, f1]; rfl, f2, f3⟩
theorem gOrds_back : ∀ (L : List OW) (r : List UInt8), (∀ o ∈ L, o.form ∧ o.fits = true) → gOrds L.length (L.flatMap packW ++ r) = some (L, r)
  | [], r, _ => rfl
  | x :: L, r, h => by
    rw [List.flatMap_cons, List.append_assoc, List.length_cons]
    unfold gOrds
    rw [gOrd_back x (h x (by simp)).1 (h x (by simp)).2]
    dsimp only
    rw [gOrds_back L r fun o ho => h o (by simp [ho])]
theorem gOrds_len : ∀ (n : Nat) (l : List UInt8) (L : List OW) (r : List UInt8), gOrds n l = some (L, r) → L.length = n ∧ ∀ o ∈ L, o.form ∧ o.fits = true
  | 0, l, L, r, h => by cases h; exact ⟨rfl, fun o ho => by cases ho⟩
  | n + 1, l, L, r, h => by
    unfold gOrds at h
    cases hg : gOrd l with
    | none => rw [hg] at h; cases h
    | some p =>
      obtain ⟨x, q⟩ := p
      rw [hg] at h
      dsimp only at h
      cases hg2 : gOrds n q with
      | none => rw [hg2] at h; cases h
      | some p =>
        obtain ⟨xs, q2⟩ := p
        rw [hg2] at h
        cases h
        obtain ⟨h1, h2⟩ := gOrds_len n q xs r hg2
        refine ⟨by rw [List.length_cons, h1], fun y hy => ?_⟩
        rcases List.mem_cons.1 hy with rfl | hy
        · exact gOrd_form hg
        · exact h2 y hy
/-- The orders of bytes. -/
def parseK (l : List UInt8) : Option (List OW) := match openL l with
  | none => none
  | some t => if t.length < 2 then none else if 400 < gLen t then none else match gOrds (gLen t) (t.drop 2) with
    | some (L, []) => some L
    | _ => none
theorem parseK_back (L : List OW) (h : ∀ o ∈ L, o.form ∧ o.fits = true) (hn : L.length ≤ 400) : parseK (sealL (allW L)) = some L := by
  unfold parseK
  rw [openL_sealL]
  have hl := leB_len (L.length : Int) 2
  have hgl : gLen (allW L) = L.length := by
    unfold gLen allW
    rw [List.take_left' hl, leV_leB _ (by omega)]
    have : (256 : Int) ^ 2 = 65536 := by decide
    rw [this]; omega
  have hd : (allW L).drop 2 = L.flatMap packW := by unfold allW; exact List.drop_left' hl
  have hb := gOrds_back L [] h
  rw [List.append_nil] at hb
  dsimp only
  rw [hgl, if_neg (by unfold allW; rw [List.length_append, hl]; omega), if_neg (by omega), hd, hb]
end Go.Proofs.YtdengmlidckkeaaGreatDoor
