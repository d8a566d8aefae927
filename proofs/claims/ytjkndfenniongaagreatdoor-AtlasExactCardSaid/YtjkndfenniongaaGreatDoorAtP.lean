import Derived.Test.YtjkndfenniongaaGreatDoorAtO
set_option linter.unusedSimpArgs false
set_option linter.unusedVariables false
set_option maxRecDepth 100000
/- atlas.Text. -/
namespace Go.Proofs.YtjkndfenniongaaGreatDoor
open Go Go.RowKit
/-- A kind as it is told. -/
def kdB (k : Int) : UInt8 := if k = 72 then 72 else if k = 73 then 73 else if k = 77 then 77 else if k = 83 then 83 else if k = 46 then 46 else 63
def nlB (k n i : Nat) : List UInt8 := if (i + 1) % k = 0 ∨ i + 1 = n then [10] else []
/-- The text of the first j pages. -/
def txP (k : Nat) (K : List Int) (j : Nat) : List UInt8 := (List.range j).flatMap fun i => kdB (K.getD i 0) :: nlB k K.length i
theorem txP_succ (k : Nat) (K : List Int) (j : Nat) : txP k K (j + 1) = (txP k K j ++ [kdB (K.getD j 0)]) ++ nlB k K.length j := by
  unfold txP
  rw [List.range_succ, List.flatMap_append]
  simp
theorem txP_len (k : Nat) (K : List Int) (j : Nat) : (txP k K j).length ≤ 2 * j := by
  induction j with
  | zero => simp [txP]
  | succ j ih =>
    rw [txP_succ]
    have : (nlB k K.length j).length ≤ 1 := by unfold nlB; split <;> simp
    simp; omega
theorem rune_kd (r : Int) : Lib.runeCells ((kdB r).toNat : Int) = Lib.byteCells [kdB r] := by
  unfold kdB
  split
  · rfl
  · split
    · rfl
    · split
      · rfl
      · split
        · rfl
        · split
          · rfl
          · rfl
theorem kd_bd (r : Int) : (0 : Int) ≤ ((kdB r).toNat : Int) ∧ ((kdB r).toNat : Int) ≤ 255 := by
  have := (kdB r).toNat_lt
  omega
theorem told_any (r : Int) (w : World) : Calls Tryz.prog 25 #[.int .i32 r] w fun e w' => e = .returned (.int .i32 ((kdB r).toNat : Int)) ∧ w' = w := by
  refine opq fun R HR => ?_
  by_cases h1 : r = 72
  · subst h1
    go_enter Tryz.func25, Tryz.ntmps25
    go_wp2
    exact HR.out _ _ ⟨rfl, rfl⟩
  by_cases h2 : r = 73
  · subst h2
    go_enter Tryz.func25, Tryz.ntmps25
    go_wp2
    exact HR.out _ _ ⟨rfl, rfl⟩
  by_cases h3 : r = 77
  · subst h3
    go_enter Tryz.func25, Tryz.ntmps25
    go_wp2
    exact HR.out _ _ ⟨rfl, rfl⟩
  by_cases h4 : r = 83
  · subst h4
    go_enter Tryz.func25, Tryz.ntmps25
    go_wp2
    exact HR.out _ _ ⟨rfl, rfl⟩
  by_cases h5 : r = 46
  · subst h5
    go_enter Tryz.func25, Tryz.ntmps25
    go_wp2
    exact HR.out _ _ ⟨rfl, rfl⟩
  have e1 : (r == 72) = false := beq_eq_false_iff_ne.2 h1
  have e2 : (r == 73) = false := beq_eq_false_iff_ne.2 h2
  have e3 : (r == 77) = false := beq_eq_false_iff_ne.2 h3
  have e4 : (r == 83) = false := beq_eq_false_iff_ne.2 h4
  have e5 : (r == 46) = false := beq_eq_false_iff_ne.2 h5
  have hk : ((kdB r).toNat : Int) = 63 := by unfold kdB; rw [if_neg h1, if_neg h2, if_neg h3, if_neg h4, if_neg h5]; rfl
  rw [hk] at HR
  clear hk h1 h2 h3 h4 h5
  go_enter Tryz.func25, Tryz.ntmps25
  go_wp2
  exact HR.out _ _ ⟨rfl, rfl⟩
set_option maxHeartbeats 4000000 in
theorem text_pg (a : Option Addr) (c : Nat) (L : List Pg) (row : Int) (k : Nat) (hk : min (max row 1) 512 = (k : Int)) (hl : L.length ≤ 100000) (w : World) (hP : Pgs w a L) :
    Calls Tryz.prog 9 #[.slice a L.length c, .int .i64 row] w fun e w' => e = .returned (strV (txP k (L.map Pg.k) L.length)) ∧ Same w w' := by
  refine opq fun R HR => ?_
  have HP := Lib.hid hP
  have hk1 : 1 ≤ k ∧ k ≤ 512 := by omega
  have hk0 : ¬ (k : Int) = 0 := by omega
  have hk2 : ((k : Int) == 0) = false := beq_eq_false_iff_ne.2 hk0
  have HS := Lib.hid (txP_succ k (L.map Pg.k))
  have HLn := Lib.hid (txP_len k (L.map Pg.k))
  rw [List.length_map] at HS
  have HG := Lib.hid (fun (j : Nat) (x : Pg) (h : L[j]? = some x) => show (L.map Pg.k).getD j 0 = x.k by rw [List.getD_eq_getElem?_getD, List.getElem?_map, h]; rfl)
  generalize L.map Pg.k = K at *
  obtain ⟨n, hn⟩ : ∃ n, L.length = n := ⟨_, rfl⟩
  rw [hn] at hl HS HR ⊢
  have HN := Lib.hid hn
  clear hn hP
  have N0 := Lib.hid (new78 w)
  go_enter Tryz.func9, Tryz.ntmps9
  go_wp2_with fail
  have M0 := Lib.hid (show Same w (w.alloc (.cells #[.pointer none, .slice none 0 0] 78)) from (Mod.refl _ _).alloc _)
  generalize w.alloc _ = W0 at *
  generalize hB : w.heap.size = B at *
  go_loopw [13, 6, 7] (fun vi _ _ wr => ∃ j : Nat, j ≤ n ∧ vi = .int .i64 (j : Int) ∧ Lib.IsBuilderF 78 5 B B (Lib.byteCells (txP k K j)) wr ∧ Same w wr) (fun vi _ _ _ => n - (intOf vi).toNat)
  case atStart => exact ⟨0, by omega, rfl, N0.out, M0.out⟩
  case round =>
    obtain ⟨j, hj, rfl, hbu, M⟩ := hrel
    have BU := Lib.hid hbu
    have J := Lib.hid M
    have hBr : B ≤ wr.heap.size := by rw [← hB]; exact M.size
    clear hbu M N0 M0
    by_cases hlt : j < n
    · obtain ⟨bl, o, rfl, hbl, hcl⟩ := HP.out (by rw [HN.out]; omega)
      obtain ⟨x, hx⟩ : ∃ x, L[j]? = some x := ⟨_, List.getElem?_eq_getElem (by rw [HN.out]; exact hlt)⟩
      have e0 := (J.out.cell hbl (fun q => q) _).trans (hcl j 0 x _ hx rfl)
      have e1 := (J.out.cell hbl (fun q => q) _).trans (hcl j 1 x _ hx rfl)
      have e2 := (J.out.cell hbl (fun q => q) _).trans (hcl j 2 x _ hx rfl)
      have e3 := (J.out.cell hbl (fun q => q) _).trans (hcl j 3 x _ hx rfl)
      rw [Nat.add_zero] at e0
      have hSj := HS.out j
      rw [HG.out j x hx] at hSj
      have HSj := Lib.hid hSj
      have hlen := HLn.out j
      obtain ⟨xk, xl, xp, va, vn, vc⟩ := x
      dsimp only at e0 e1 e2 e3 HSj
      clear hcl hx hSj
      have hw1 : IntKind.i64.wrap ((j : Int) + 1) = ((j + 1 : Nat) : Int) := by rw [IntWalk.i64_in _ (by omega)]; rfl
      have hq : ((j + 1 : Nat) : Int).tmod (k : Int) = (((j + 1) % k : Nat) : Int) := by
        rw [Int.tmod_eq_emod_of_nonneg (by omega)]; rfl
      have hqi : IntKind.i64.wrap (((j + 1) % k : Nat) : Int) = (((j + 1) % k : Nat) : Int) := by
        have := Nat.mod_lt (j + 1) (show 0 < k by omega)
        exact IntWalk.i64_in _ (by omega)
      unfold nlB at HSj
      go_wp2_with fail
      refine (told_any xk _).mono ?_
      rintro e w3 ⟨rfl, rfl⟩
      have hbd := kd_bd xk
      have hrk := rune_kd xk
      have B3 := Lib.hid (BU.out.alloc (.cells #[.int .i32 xk, .int .i64 xl, .int .i64 xp, .slice va vn vc] 34))
      have J3 := Lib.hid (J.out.alloc (.cells #[.int .i32 xk, .int .i64 xl, .int .i64 xp, .slice va vn vc] 34))
      have hB3 : B ≤ (wr.alloc (.cells #[.int .i32 xk, .int .i64 xl, .int .i64 xp, .slice va vn vc] 34)).heap.size := by rw [← hB]; exact J3.out.size
      clear BU J e0 e1 e2 e3
      go_wp2_with fail
      generalize wr.alloc _ = w3 at *
      refine (Tryz.Builder_WriteRune_k B B _ ((kdB xk).toNat : Int) (by omega) (by omega) w3 B3.out (by rw [Lib.byteCells_length]; omega) hB3).mono ?_
      rintro e w4 ⟨rfl, hb4, hbl, _⟩
      rw [hrk, ← Lib.byteCells_append] at hb4
      have P4 := Lib.hid hb4
      have J4 := Lib.hid (Same.of_below (by rw [hB]; exact (by rw [← hB]; exact Same.below J3.out : Below B w w3).trans hbl : Below w.heap.size w w4))
      have hB4 : B ≤ w4.heap.size := by rw [← hB]; exact J4.out.size
      clear hb4 hbl B3 J3 hrk
      by_cases hr : (j + 1) % k = 0
      · rw [if_pos (.inl hr)] at HSj
        have hz0 : ((j + 1 : Nat) : Int) % (k : Int) = 0 := by omega
        have hz : (((j + 1 : Nat) : Int) % (k : Int) == 0) = true := by rw [hz0]; rfl
        have hz' : (((j : Int) + 1) % (k : Int) == 0) = true := hz
        rw [hr] at hq hqi
        clear hr
        go_wp2_with fail
        refine (Tryz.Builder_WriteByte_k B B _ 10 w4 (.inr P4.out) (by rw [Lib.byteCells_length, List.length_append]; simp; omega) hB4).mono ?_
        rintro e w5 ⟨rfl, hb5, hbl5, _⟩
        have P5 := Lib.hid (show Lib.BuilderAtF 78 5 B B (.pointer (some ⟨B, 0, none⟩)) (Lib.byteCells (txP k K (j + 1))) w5 from by rw [HSj.out, Lib.byteCells_append]; exact hb5)
        have J5 := Lib.hid (Same.of_below (by rw [hB]; exact (by rw [← hB]; exact Same.below J4.out : Below B w w4).trans hbl5 : Below w.heap.size w w5))
        clear hb5 hbl5 P4 J4
        go_wp2_with fail
        go_roundw
        case rel => exact ⟨j + 1, by omega, by first | rfl | go_num, .inr P5.out, J5.out⟩
        case measure => simp [intOf]; omega
      · have hz : (((j + 1 : Nat) : Int) % (k : Int) == 0) = false := beq_eq_false_iff_ne.2 (by omega)
        have hz' : (((j : Int) + 1) % (k : Int) == 0) = false := hz
        by_cases hjn : j + 1 = n
        · rw [if_pos (.inr hjn)] at HSj
          have hjb : ((((j + 1 : Nat)) : Int) == (n : Int)) = true := by simp [hjn]
          rw [hjn] at hz
          go_wp2_with fail
          refine (Tryz.Builder_WriteByte_k B B _ 10 w4 (.inr P4.out) (by rw [Lib.byteCells_length, List.length_append]; simp; omega) hB4).mono ?_
          rintro e w5 ⟨rfl, hb5, hbl5, _⟩
          have P5 := Lib.hid (show Lib.BuilderAtF 78 5 B B (.pointer (some ⟨B, 0, none⟩)) (Lib.byteCells (txP k K (j + 1))) w5 from by rw [HSj.out, Lib.byteCells_append]; exact hb5)
          have J5 := Lib.hid (Same.of_below (by rw [hB]; exact (by rw [← hB]; exact Same.below J4.out : Below B w w4).trans hbl5 : Below w.heap.size w w5))
          clear hb5 hbl5 P4 J4
          go_wp2_with fail
          go_roundw
          case rel => exact ⟨j + 1, by omega, by first | rfl | go_num, .inr P5.out, J5.out⟩
          case measure => simp [intOf]; omega
        · rw [if_neg (fun q => q.elim hr hjn), List.append_nil] at HSj
          have hjb : ((((j + 1 : Nat)) : Int) == (n : Int)) = false := beq_eq_false_iff_ne.2 (by omega)
          have hjb' : ((j : Int) + 1 == (n : Int)) = false := hjb
          go_wp2_with fail
          go_roundw
          case rel => exact ⟨j + 1, by omega, by first | rfl | go_num, by rw [HSj.out]; exact .inr P4.out, J4.out⟩
          case measure => simp [intOf]; omega
    · obtain rfl : n = j := by omega
      go_wp2_with fail
      refine (Tryz.Builder_String_any_k B B _ wr BU.out hBr).mono ?_
      rintro e w3 ⟨rfl, _, hbl, _⟩
      have J3 := Lib.hid (Same.of_below (by rw [hB]; exact (by rw [← hB]; exact Same.below J.out : Below B w wr).trans hbl : Below w.heap.size w w3))
      clear hbl
      go_wp2
      exact HR.out _ _ ⟨rfl, J3.out⟩
end Go.Proofs.YtjkndfenniongaaGreatDoor
