import Derived.Test.YtjkndfenniongaaGreatDoorAtN
import Derived.Laws.BytesArg
set_option linter.unusedSimpArgs false
set_option linter.unusedVariables false
set_option maxRecDepth 100000
/- A store is laid. -/
namespace Go.Proofs.YtjkndfenniongaaGreatDoor
open Go Go.RowKit
theorem str_app (a b : List UInt8) : (⟨a.toArray⟩ : ByteArray) ++ ⟨b.toArray⟩ = ⟨(a ++ b).toArray⟩ := by
  apply ByteArray.ext
  simp
def zerosL (n : Nat) : List UInt8 := List.replicate n 0
theorem make_z (n : Nat) (hn : n ≤ 100000) (h0 : 0 < n) (w : World) : ∃ w', (Instr.makeSlice 40 (.int .i64 (n : Int)) (.int .i64 (n : Int))).run Tryz.prog w = .ok (.slice (some ⟨w.heap.size, 0, none⟩) n n) w' ∧ RowV w' w.heap.size n (fun _ => .int .u8 0) ∧ Same w w' := by
  obtain ⟨i0, hi, hz0, hz1, hz2⟩ := info_parts info5
  obtain ⟨w', hr, hown, hg⟩ := run_makeSlice_full (P := Tryz.prog) w w.heap.size 40 5 i0 (.int .u8 0) 1 Tryz.underlying40 hi hz0 hz1 .i64 .i64 n (by omega) (by rw [hz2]; omega) (by unfold maxLen; omega) (Nat.le_refl _)
  refine ⟨w', hr, ?_, (Mod.refl _ _).grown hg (fun k hk => by cases hk)⟩
  rw [show (Value.int IntKind.u8 0).cells = #[Value.int IntKind.u8 0] from rfl, toList_madeCells_one] at hown
  obtain ⟨g, cap, hv, hg0, hgc, hrow⟩ := RowV.of_owns hown h0
  injection hv with ha _ _
  injection ha with ha
  injection ha with ha _
  subst ha
  rw [Nat.mul_one] at hrow
  refine hrow.congr fun i hi => ?_
  rw [List.getD_eq_getElem?_getD, List.getElem?_replicate, if_pos (by omega)]; rfl
theorem conv_z (n g : Nat) (w : World) (hr : RowV w g n (fun _ => .int .u8 0)) : (convert 40 9 (.slice (some ⟨g, 0, none⟩) n n)).run Tryz.prog w = .ok (strV (zerosL n)) w := by
  have e : Value.string (strOfNums (List.replicate n 0)) = strV (zerosL n) := by
    unfold strV zerosL strOfNums; simp
  rw [← e]
  refine run_convert_bytes_arg (P := Tryz.prog) _ 40 5 Tryz.underlying40 Tryz.underlying5 g 0 n n _ (by simp) ?_ 9 Tryz.underlying9
  intro i hi
  have key := hr.cell i (by simpa using hi)
  rw [Nat.zero_add, key]
  have : i < n := by simpa using hi
  simp [this]
def secsF (S : List (List UInt8)) (h : Hd) : List (List UInt8) := (S.set 0 (headB h)).set 1 (zerosL 16)
theorem headB_len (h : Hd) : (headB h).length = 16 := by
  unfold headB bodyB slotsB
  rw [sealL_len]; simp [leB_len]
set_option maxHeartbeats 4000000 in
theorem format_any {B : Nat} {w : World} {d m lb : Nat} {u : Int} (hu : 0 ≤ u ∧ u ≤ 100000) {S : List (List UInt8)} (h : Dev B w d m lb u S (.map [])) (hp : 1 < min (S.length / 16) 512) (s0 s1 ch : Int) (hg : goodH ⟨1, 0, s0, s1, ch⟩ = true) :
    Calls Tryz.prog 10 #[bp d, .agg #[.int .i64 s0, .int .i64 s1], .int .i64 ch] w fun e w' => (∃ s, e = .returned (.tuple #[bp s, .int .i64 0])) ∧ Dev B w' d m lb (u + 3) (secsF S ⟨1, 0, s0, s1, ch⟩) (.map []) ∧ Below B w w' := by
  refine opq fun R HR => ?_
  have HD := Lib.hid h
  have hBw : B ≤ w.heap.size := Nat.le_trans h.hm (Nat.le_of_lt h.main.lt)
  have HB := Lib.hid (fun w => headb_any ⟨1, 0, s0, s1, ch⟩ w)
  rw [hg, if_pos rfl] at HB
  dsimp only [hdV, hdC] at HB
  have hhl := headB_len ⟨1, 0, s0, s1, ch⟩
  unfold secsF at HR
  generalize headB ⟨1, 0, s0, s1, ch⟩ = hd at *
  have M0 := Lib.hid (show Same w ((w.alloc (.cells #[.int .i64 s0, .int .i64 s1] 45)).alloc (.cells #[.int .u64 1, .int .i64 0, .int .i64 s0, .int .i64 s1, .int .i64 ch] 53)) from ((Mod.refl _ _).alloc _).alloc _)
  have X0 := Lib.hid (Blk.new (w.alloc (.cells #[.int .i64 s0, .int .i64 s1] 45)) #[.int .u64 1, .int .i64 0, .int .i64 s0, .int .i64 s1, .int .i64 ch] 53)
  clear h hg
  go_enter Tryz.func10, Tryz.ntmps10
  go_wp2_with fail
  have hXs : (w.alloc (.cells #[.int .i64 s0, .int .i64 s1] 45)).heap.size = w.heap.size + 1 := by simp
  rw [hXs] at X0
  clear hXs
  generalize (w.alloc _).alloc _ = W0 at *
  refine (HB.out W0).mono ?_
  rintro e w1 ⟨rfl, M⟩
  have K1 := Lib.hid (M0.out.same M)
  have X1 := Lib.hid (X0.out.mod M (fun q => q))
  clear M M0 X0 HB
  have D1 := Lib.hid (HD.out.same K1.out)
  have HPg := Lib.hid (pages_any D1.out)
  have hl := HD.out.len
  have hS32 : 32 ≤ S.length := by omega
  generalize hnn : min (S.length / 16) 512 = np at *
  have hn1 : ¬ (np : Int) ≤ 1 := by omega
  unfold strV
  go_wp2_with fail
  refine HPg.out.mono ?_
  rintro e w2 ⟨rfl, rfl⟩
  clear HPg hnn
  obtain ⟨w3, hmk, hrow, M⟩ : ∃ w', (Instr.makeSlice 40 (.int .i64 16) (.int .i64 16)).run Tryz.prog w2 = .ok (.slice (some ⟨w2.heap.size, 0, none⟩) 16 16) w' ∧ RowV w' w2.heap.size 16 (fun _ => .int .u8 0) ∧ Same w2 w' := make_z 16 (by omega) (by omega) w2
  have hcv := conv_z 16 w2.heap.size w3 hrow
  have K3 := Lib.hid (K1.out.same M)
  have X3 := Lib.hid (X1.out.mod M (fun q => q))
  have D3 := Lib.hid (HD.out.same K3.out)
  have hap := str_app hd (zerosL 16)
  unfold strV at hcv
  clear hrow M K1 X1 D1
  have HWr := Lib.hid (write2_any (by omega) D3.out (by omega) hd (zerosL 16) hhl (by simp [zerosL]))
  unfold strV at HWr
  go_wp2_with fail
  refine HWr.out.mono ?_
  rintro e w4 ⟨rfl, hdv, M⟩
  have hmx : m < w3.heap.size ∧ lb < w3.heap.size := ⟨D3.out.main.lt, D3.out.loose.lt⟩
  have D4 := Lib.hid hdv
  have hXB : w.heap.size + 1 < w3.heap.size := X3.out.lt
  have hmw : m < w.heap.size := HD.out.main.lt
  have hlw : lb < w.heap.size := HD.out.loose.lt
  have X4 := Lib.hid (X3.out.mod M (fun q => by omega))
  obtain ⟨a0, c0, hbd0, hsf0⟩ := HD.out.disc
  obtain ⟨g, rfl, hgB, hgd, hgm, hrow0⟩ := hsf0 (by omega)
  have hgw := hrow0.lt
  have hdw := hbd0.lt
  have hc1 : w4.cell? ⟨d, 1, none⟩ = some (.slice (some ⟨g, 0, none⟩) S.length c0) := by
    rw [M.cell (by have := K3.out.size; omega) (fun q => by rcases q with q | q; exact HD.out.ne q; exact HD.out.ne_map.1 q), K3.out.cell hdw (fun q => q)]
    exact hbd0.at_ (i := 1) _ rfl
  have N4 := Lib.hid ((Same.to_below K3.out hBw).trans (Mod.below M (Nat.le_trans hBw K3.out.size) (fun i hi q => by have := HD.out.hm; have := HD.out.hlb; omega)))
  clear hdv M D3 X3 HWr hcv hap hbd0 hsf0 hrow0
  have HFl := Lib.hid (flush_any (by omega) hd (zerosL 16) D4.out (by omega))
  go_wp2_with fail
  refine HFl.out.mono ?_
  rintro e w5 ⟨rfl, hdv, g', ⟨c', hg'⟩, M⟩
  have hgg : g' = g := by
    rw [hc1] at hg'
    simp only [Option.some.injEq, Value.slice.injEq, Addr.mk.injEq] at hg'
    exact hg'.1.1.symm
  subst hgg
  have D5 := Lib.hid hdv
  have X5 := Lib.hid (X4.out.mod M (fun q => by omega))
  have N5 := Lib.hid (N4.out.trans (Mod.below M (Nat.le_trans hBw N4.out.size) (fun i hi q => by have := HD.out.hm; have := HD.out.hlb; omega)))
  clear hdv M X4 N4 HFl hg' hc1
  have c0 := X5.out.at_ (i := 0) _ rfl
  have c1 := X5.out.at_ (i := 1) _ rfl
  have c2 := X5.out.at_ (i := 2) _ rfl
  have c3 := X5.out.at_ (i := 3) _ rfl
  have c4 := X5.out.at_ (i := 4) _ rfl
  have HMd := Lib.hid (made_any d ⟨1, 0, s0, s1, ch⟩ 0 w5)
  dsimp only [hdV, hdC] at HMd
  go_wp2_with fail
  refine HMd.out.mono ?_
  rintro e w6 ⟨⟨s, kb, fb, rfl, _⟩, M⟩
  have D6 := Lib.hid (D5.out.same M)
  have N6 := Lib.hid (N5.out.trans (Same.to_below M (Nat.le_trans hBw N5.out.size)))
  clear M D5 N5 X5 HMd
  go_wp2
  exact HR.out _ _ ⟨⟨s, rfl⟩, by rw [show u + 3 = u + 2 + 1 by omega]; exact D6.out, N6.out⟩
end Go.Proofs.YtjkndfenniongaaGreatDoor
