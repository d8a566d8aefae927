import Derived.Test.YtjkndfenniongaaGreatDoorAtP
set_option linter.unusedSimpArgs false
set_option linter.unusedVariables false
set_option maxRecDepth 100000
/- Layer 33 is awake. -/
namespace Go.Proofs.YtjkndfenniongaaGreatDoor
open Go Go.RowKit
theorem of_any7 (l : List UInt8) (hl : l.length ≤ 1000000000) (w : World) : Calls Tryz.prog 7 #[strV l] w fun e w' => (∃ d m lb, e = .returned (bp d) ∧ Dev w.heap.size w' d m lb 0 (secs l) (.map [])) ∧ Same w w' := by
  refine opq fun R HR => ?_
  have HO := Lib.hid (fun m w' (hm : Blk w' m (mcells 0)) (hB : w.heap.size ≤ m) => of_dev w.heap.size m 0 hB l hl w' hm)
  unfold strV at HO ⊢
  go_enter Tryz.func7, Tryz.ntmps7
  go_wp2_with fail
  refine (new_any w).mono ?_
  rintro e w1 ⟨rfl, hb, M⟩
  have B1 := Lib.hid hb
  have K1 := Lib.hid M
  clear hb M
  go_wp2_with fail
  refine (HO.out w.heap.size w1 B1.out (Nat.le_refl _)).mono ?_
  rintro e w2 ⟨⟨d, lb, rfl, hd⟩, M⟩
  have D2' := Lib.hid hd
  have K2 := Lib.hid (K1.out.same M)
  clear hd M HO
  go_wp2
  exact HR.out _ _ ⟨⟨d, _, lb, rfl, D2'.out⟩, K2.out⟩
def hd5 : Hd := ⟨1, 0, 5, 5, 1⟩
theorem zero_secs : secs (zerosL 1280) = List.replicate 80 (zerosL 16) := by decide +kernel
theorem zero_read : readH (zerosL 16) = none := by decide +kernel
theorem hd5_read : readH (headB hd5) = some hd5 := by
  unfold readH headB
  rw [openL_sealL]
  have e : parseH (bodyB hd5) = hd5 := by
    unfold parseH
    rw [show leV (((bodyB hd5).drop 6).take 4) = 1 by decide +kernel, show leV (((bodyB hd5).drop 10).take 2) = 0 by decide +kernel, show leV (((bodyB hd5).drop 2).take 2) = 5 by decide +kernel, show leV (((bodyB hd5).drop 4).take 2) = 5 by decide +kernel, show leV (((bodyB hd5).drop 1).take 1) = 1 by decide +kernel]; rfl
  dsimp only
  rw [if_pos ⟨by decide +kernel, by rw [e]; decide⟩, e]
theorem hd5_good : goodH hd5 = true := by decide
theorem zero_open : openS (secs (zerosL 1280)) = none := by
  unfold openS
  rw [zero_secs, if_neg (by decide), show (List.replicate 80 (zerosL 16)).getD 0 [] = zerosL 16 from rfl, show (List.replicate 80 (zerosL 16)).getD 1 [] = zerosL 16 from rfl]
  unfold newest
  rw [zero_read]
theorem secsF_open : openS (secsF (secs (zerosL 1280)) hd5) = some (hd5, 0) := by
  unfold openS secsF
  rw [zero_secs]
  rw [if_neg (by rw [List.length_set, List.length_set]; decide)]
  rw [show (((List.replicate 80 (zerosL 16)).set 0 (headB hd5)).set 1 (zerosL 16)).getD 0 [] = headB hd5 from rfl, show (((List.replicate 80 (zerosL 16)).set 0 (headB hd5)).set 1 (zerosL 16)).getD 1 [] = zerosL 16 from rfl]
  unfold newest
  rw [hd5_read, zero_read]
theorem secsF_16 : ∀ s ∈ secsF (secs (zerosL 1280)) hd5, s.length = 16 := by
  intro s hs
  unfold secsF at hs
  rcases List.mem_or_eq_of_mem_set hs with h | rfl
  · rcases List.mem_or_eq_of_mem_set h with h | rfl
    · exact secs_16 _ s h
    · exact headB_len _
  · simp [zerosL]
theorem wakeT : txP 3 ((blankL 5).map Pg.k) 5 = [72, 46, 46, 10, 46, 46, 10] := by decide +kernel
set_option maxHeartbeats 8000000 in
theorem awake_any (w : World) : Calls Tryz.prog 5 #[] w fun e w' => e = .returned (.bool true) ∧ Same w w' := by
  refine opq fun R HR => ?_
  obtain ⟨w1, hmk, hrow, M⟩ : ∃ w', (Instr.makeSlice 40 (.int .i64 1280) (.int .i64 1280)).run Tryz.prog w = .ok (.slice (some ⟨w.heap.size, 0, none⟩) 1280 1280) w' ∧ RowV w' w.heap.size 1280 (fun _ => .int .u8 0) ∧ Same w w' := make_z 1280 (by omega) (by omega) w
  have hcv := conv_z 1280 w.heap.size w1 hrow
  have K1 := Lib.hid M
  have HO := Lib.hid (of_any7 (zerosL 1280) (by simp [zerosL]) w1)
  have h16 := secs_16 (zerosL 1280)
  have hop := zero_open
  have hop2 := secsF_open
  have h162 := secsF_16
  have hl80 : (secs (zerosL 1280)).length = 80 := by rw [zero_secs]; simp
  have hl80F : (secsF (secs (zerosL 1280)) hd5).length = 80 := by unfold secsF; simp [hl80]
  unfold strV at hcv HO
  generalize secs (zerosL 1280) = S at *
  generalize zerosL 1280 = ZL at *
  clear hrow M
  go_enter Tryz.func5, Tryz.ntmps5
  go_wp2_with fail
  refine HO.out.mono ?_
  rintro e w2 ⟨⟨d, m, lb, rfl, hd⟩, M⟩
  have K2 := Lib.hid (K1.out.same M)
  have D2' := Lib.hid hd
  have hB1 : w.heap.size ≤ w1.heap.size := K1.out.size
  clear hd M K1 HO hmk hcv
  go_wp2_with fail
  refine (look_bad D2'.out (fun s hs => h16 s hs) hop).mono ?_
  rintro e w3 ⟨rfl, M⟩
  have K3 := Lib.hid (K2.out.same M)
  have D3 := Lib.hid (D2'.out.same M)
  clear M K2 D2'
  go_wp2_with fail
  refine (format_any (by omega) D3.out (by rw [hl80]; decide) 5 5 1 hd5_good).mono ?_
  rintro e w4 ⟨⟨s, rfl⟩, hdv, hbl⟩
  have D4 := Lib.hid (show Dev w1.heap.size w4 d m lb (0 + 3) (secsF S hd5) (.map []) from hdv)
  have N4 := Lib.hid ((Same.below K3.out).trans (hbl.mono hB1))
  clear hdv hbl K3 D3
  go_wp2_with fail
  refine (look0_any D4.out h162 hd5 0 hop2 rfl).mono ?_
  rintro e w5 ⟨⟨a, c, rfl, hpg⟩, M⟩
  rw [hl80F] at hpg ⊢
  rw [show min (80 / 16) 512 = 5 from rfl] at hpg ⊢
  have N5 := Lib.hid (N4.out.trans (Same.to_below M N4.out.size))
  have P5 := Lib.hid hpg
  clear hpg M N4 D4
  have HT := Lib.hid (text_pg a c (blankL 5) 3 3 (by decide) (by rw [blankL_len]; omega) w5 P5.out)
  rw [blankL_len, wakeT] at HT
  unfold strV at HT
  go_wp2_with fail
  refine HT.out.mono ?_
  rintro e w6 ⟨rfl, M⟩
  have N6 := Lib.hid (N5.out.trans (Same.to_below M N5.out.size))
  clear M N5 P5 HT
  have HT2 := Lib.hid (text_pg none 0 [] 1 1 (by decide) (by simp) w6 (fun q => by simp at q))
  rw [show txP 1 (([] : List Pg).map Pg.k) ([] : List Pg).length = [] from rfl, show ([] : List Pg).length = 0 from rfl] at HT2
  unfold strV at HT2
  go_wp2_with fail
  refine HT2.out.mono ?_
  rintro e w7 ⟨rfl, M⟩
  have N7 := Lib.hid (N6.out.trans (Same.to_below M N6.out.size))
  clear M N6 HT2
  go_wp2
  exact HR.out _ _ ⟨rfl, Same.of_below N7.out⟩
end Go.Proofs.YtjkndfenniongaaGreatDoor
