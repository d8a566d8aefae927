import Derived.Test.YthkpmmkddgjhmaaMillD
set_option linter.unusedSimpArgs false
set_option linter.unusedVariables false
namespace Go.Proofs.Ythkpmmkddgjhmaa
open Go Go.RowKit
set_option maxRecDepth 10000 in
theorem keep_x (M D : Nat) (sz s : Int) (w : World) (h : MS w M D sz s) (hs : U64 s) :
    Calls Try.prog 30 #[dptr M] w (Dealt w D (.string (strOfNums [belV 256 s])) (belS 256 s)) := by
  refine opq fun R HR => ?_
  have H := Lib.hid h
  have hc := h.m.cell
  have hf := h.m.free
  have HT := Lib.hid (dbelow_any D s 256 w h.d hs (by omega))
  have HU := Lib.hid (belS_u 256 s hs)
  have hb := belV_bd 256 s
  clear h
  generalize belV 256 s = v at *
  generalize belS 256 s = t at *
  have kc := fun (w : World) => conv1 w v
  go_enter Try.func30, Try.ntmps30
  go_wp2_with fail
  refine HT.out.mono ?_
  rintro e w1 ⟨rfl, h1, M1⟩
  have J1 := Lib.hid h1
  have J2 := Lib.hid M1
  clear h1 M1 HT
  go_wp2
  exact HR.out _ _ ⟨rfl, J1.out.alloc _, J2.out.alloc _⟩
theorem sectors_x (M D : Nat) (sz s : Int) (w : World) (h : MS w M D sz s) (hs : U64 s) (hz : 1 ≤ sz ∧ sz ≤ 8) :
    Calls Try.prog 28 #[dptr M] w (Dealt w D (.tuple #[.int .i64 (belV (8 * sz) s), .int .i64 (1 + belV (2 * sz) (belS (8 * sz) s))]) (belS (2 * sz) (belS (8 * sz) s))) := by
  refine opq fun R HR => ?_
  have H := Lib.hid h
  have hcm := h.m.cell
  have HT1 := Lib.hid (fun wz (hd : DS wz D s) => dbelow_any D s (8 * sz) wz hd hs (by omega))
  have hu1 := belS_u (8 * sz) s hs
  have HT2 := Lib.hid (fun wz (hd : DS wz D (belS (8 * sz) s)) => dbelow_any D _ (2 * sz) wz hd hu1 (by omega))
  have HU2 := Lib.hid (belS_u (2 * sz) _ hu1)
  have hb1 := belV_bd (8 * sz) s
  have hb2 := belV_bd (2 * sz) (belS (8 * sz) s)
  clear h hu1
  generalize belV (8 * sz) s = v1 at *
  generalize belS (8 * sz) s = t1 at *
  generalize belV (2 * sz) t1 = v2 at *
  generalize belS (2 * sz) t1 = t2 at *
  have e1 : IntKind.i64.wrap (8 * sz) = 8 * sz := IntWalk.i64_in _ (by omega)
  have e2 : IntKind.i64.wrap (2 * sz) = 2 * sz := IntWalk.i64_in _ (by omega)
  have e3 : IntKind.i64.wrap (1 + v2) = 1 + v2 := IntWalk.i64_in _ (by omega)
  go_enter Try.func28, Try.ntmps28
  go_wp2_with fail
  go_region_held3 (fun w' => ∀ i, w'.cell? ⟨M, i, none⟩ = #[dptr D, Value.int .i64 sz][i]?) (first | exact hcm | assumption | go_keep) ((
    first
    | (go_at_call 21; refine (HT1.out _ H.out.d.drew).mono ?_; rintro e w5 ⟨rfl, h1, M1⟩; have H5 := Lib.hid (H.out.drew.next h1 M1); have N5 := Lib.hid ((Mod.refl (fun i => i = D) w).drew.trans M1); have hq := H5.out.m.cell; clear h1 M1)))
  clear hcm
  go_wp2_with fail
  go_region_held3 (fun w' => ∀ i, w'.cell? ⟨M, i, none⟩ = #[dptr D, Value.int .i64 sz][i]?) (first | exact hq | assumption | go_keep) ((
    first
    | (go_at_call 21; refine (HT2.out _ H5.out.d.drew).mono ?_; rintro e w6 ⟨rfl, h1, M1⟩; have H6 := Lib.hid (H5.out.drew.next h1 M1); have N6 := Lib.hid (N5.out.drew.trans M1); have hq2 := H6.out.m.cell; clear h1 M1)))
  go_wp2
  exact HR.out _ _ ⟨rfl, H6.out.d, N6.out⟩
set_option maxRecDepth 10000 in
set_option maxHeartbeats 4000000 in
theorem data_x (M D : Nat) (sz s : Int) (n : Nat) (w : World) (h : MS w M D sz s) (hs : U64 s) (hn : n ≤ 100) :
    Calls Try.prog 29 #[dptr M, .int .i64 n] w (Dealt w D (.string ⟨(dataL (1 + belV 200 s) n).toArray⟩) (belS 200 s)) := by
  refine opq fun R HR => ?_
  have H := Lib.hid h
  have hcm := h.m.cell
  have HT1 := Lib.hid (dbelow_any D s 200 w h.d hs (by omega))
  have HU1 := Lib.hid (belS_u 200 s hs)
  have hb1 := belV_bd 200 s
  clear h
  generalize belV 200 s = v1 at *
  generalize belS 200 s = t1 at *
  have e1 : IntKind.i64.wrap (1 + v1) = 1 + v1 := IntWalk.i64_in _ (by omega)
  have eb : IntKind.u8.wrap (1 + v1) = 1 + v1 := by unfold IntKind.wrap; simp [IntKind.signed, IntKind.bits]; omega
  go_enter Try.func29, Try.ntmps29
  go_wp2_with fail
  refine HT1.out.mono ?_
  rintro e w1 ⟨rfl, h1, M1⟩
  have J1 := Lib.hid h1
  have J2 := Lib.hid M1
  clear h1 M1 HT1 hcm
  go_wp2_with fail
  have B0 := Lib.hid (bF_new w1)
  have S0 := Lib.hid ((Mod.refl (fun _ => False) w1).alloc (.cells #[.pointer none, .slice none 0 0] 100))
  generalize w1.alloc _ = W at *
  go_loopw [16, 7] (fun i _ wr => ∃ k : Nat, k ≤ n ∧ i = .int .i64 k ∧ Lib.IsBuilderF 100 5 w1.heap.size w1.heap.size (Lib.byteCells (dataL (1 + v1) k)) wr ∧ Same w1 wr) (fun i _ _ => n - (intOf i).toNat)
  case atStart => exact ⟨0, by omega, rfl, B0.out, S0.out⟩
  case round =>
    obtain ⟨k, hk, rfl, hB, hS⟩ := hrel
    by_cases hlt : k < n
    · have K1 := Lib.hid hB
      have K2 := Lib.hid hS
      have hsz : w1.heap.size ≤ wr.heap.size := hS.size
      clear hB hS
      have hlen := dataL_len (1 + v1) k
      have ek : IntKind.u8.wrap (k : Int) = (k : Int) := by unfold IntKind.wrap; simp [IntKind.signed, IntKind.bits]; omega
      have HN := Lib.hid (cells_next (1 + v1) k (by omega))
      have HW := Lib.hid (Try.Builder_WriteByte_k w1.heap.size w1.heap.size _ (k : Int) wr K1.out (by rw [Lib.byteCells_length, hlen]; omega) hsz)
      have hl2 : (Lib.byteCells (dataL (1 + v1) k) ++ [Value.int .u8 (k : Int)]).length = 16 * k + 1 := by rw [List.length_append, Lib.byteCells_length, hlen]; rfl
      have HL2 := Lib.hid hl2
      clear hl2 hlen
      generalize Lib.byteCells (dataL (1 + v1) k) ++ [Value.int .u8 (k : Int)] = cs at *
      go_wp2_with fail
      refine HW.out.mono ?_
      rintro e w2 ⟨rfl, hB2, hS2, _⟩
      have K3 := Lib.hid hB2
      have K4 := Lib.hid (K2.out.then_ (Mod.of_below (S := fun i => w1.heap.size ≤ i) hS2 (fun _ _ q => q)) (fun i hi (q : w1.heap.size ≤ i) => by omega))
      have hsz2 : w1.heap.size ≤ w2.heap.size := K4.out.size
      clear hB2 hS2 K1 K2 HW
      have kc := fun (w : World) => conv1 w (1 + v1)
      go_wp2_with fail
      clear kc
      refine (Lib.hid (Try.strings_Repeat (strOfNums [1 + v1]) 15 (w2.alloc (.cells #[.int .u8 (1 + v1)] 5)) (by decide) (by rw [strOfNums_size]; show 1 * 15 ≤ 140737488355328; omega))).out.mono ?_
      rintro e w3 ⟨rfl, hS3⟩
      have K5 := Lib.hid (K4.out.alloc (.cells #[.int .u8 (1 + v1)] 5) |>.same (Same.of_below hS3))
      have K6 := Lib.hid (bF_same (Lib.IsBuilderF.alloc (.inr K3.out) (.cells #[.int .u8 (1 + v1)] 5)) (Same.of_below hS3))
      have hsz3 : w1.heap.size ≤ w3.heap.size := K5.out.size
      clear hS3 K3 K4
      have hl4 : ((⟨(Lib.repeatL (strOfNums [1 + v1]).data.toList 15).toArray⟩ : ByteArray)).size = 15 := by simp [ByteArray.size, Lib.repeatL_length, strOfNums]
      have HW2 := Lib.hid (Try.Builder_WriteString_k w1.heap.size w1.heap.size cs ⟨(Lib.repeatL (strOfNums [1 + v1]).data.toList 15).toArray⟩ w3 K6.out (by rw [HL2.out, hl4]; omega) hsz3)
      rw [← HN.out] at HW2
      clear HN HL2 K6 hl4
      go_wp2_with fail
      refine HW2.out.mono ?_
      rintro e w4 ⟨rfl, hB4, hS4, _⟩
      have K7 := Lib.hid hB4
      have K8 := Lib.hid (K5.out.then_ (Mod.of_below (S := fun i => w1.heap.size ≤ i) hS4 (fun _ _ q => q)) (fun i hi (q : w1.heap.size ≤ i) => by omega))
      clear hB4 hS4 K5 HW2
      go_wp2
      go_roundw
      case rel => exact ⟨k + 1, by omega, by go_num, .inr K7.out, K8.out⟩
      case measure => simp [intOf]; omega
    · obtain rfl : k = n := by omega
      have K1 := Lib.hid hB
      have K2 := Lib.hid hS
      have hsz : w1.heap.size ≤ wr.heap.size := hS.size
      clear hB hS
      go_wp2_with fail
      refine (Lib.hid (Try.Builder_String_any_k w1.heap.size w1.heap.size (dataL (1 + v1) k) wr K1.out hsz)).out.mono ?_
      rintro e w2 ⟨rfl, _, hS2, _⟩
      have K4 := Lib.hid (K2.out.then_ (Mod.of_below (S := fun i => w1.heap.size ≤ i) hS2 (fun _ _ q => q)) (fun i hi (q : w1.heap.size ≤ i) => by omega))
      clear hS2
      go_wp2
      exact HR.out _ _ ⟨rfl, J1.out.mod K4.out (fun q => q), J2.out.same K4.out⟩
end Go.Proofs.Ythkpmmkddgjhmaa
