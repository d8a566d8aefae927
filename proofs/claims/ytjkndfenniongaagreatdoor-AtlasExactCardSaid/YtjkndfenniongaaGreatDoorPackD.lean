import Derived.Test.YtjkndfenniongaaGreatDoorPackC
set_option linter.unusedSimpArgs false
set_option linter.unusedVariables false
namespace Go.Proofs.YtjkndfenniongaaGreatDoor
open Go Go.RowKit
/-- The lowest k bytes of a number, the lowest first. -/
def leB (n : Int) (k : Nat) : List UInt8 := (List.range k).map fun i => UInt8.ofNat (n / 256 ^ i % 256).toNat
theorem leB_succ (n : Int) (k : Nat) : leB n (k + 1) = leB n k ++ [UInt8.ofNat (n / 256 ^ k % 256).toNat] := by simp [leB, List.range_succ]
theorem leB_len (n : Int) (k : Nat) : (leB n k).length = k := by simp [leB]
/-- The number of bytes, the lowest first. -/
def leV : List UInt8 → Int
  | [] => 0
  | b :: l => b.toNat + 256 * leV l
theorem leV_snoc (l : List UInt8) (b : UInt8) : leV (l ++ [b]) = leV l + b.toNat * 256 ^ l.length := by
  induction l with
  | nil => simp [leV]
  | cons a l ih => simp only [List.cons_append, leV, ih, List.length_cons, Int.pow_succ]; rw [Int.mul_add, Int.add_assoc]; congr 1; congr 1; rw [Int.mul_comm 256, Int.mul_assoc]
theorem leV_bd (l : List UInt8) : 0 ≤ leV l ∧ leV l < 256 ^ l.length := by
  induction l with
  | nil => simp [leV]
  | cons a l ih =>
    have ha : a.toNat < 256 := a.toNat_lt
    simp only [leV, List.length_cons, Int.pow_succ]
    constructor <;> omega
theorem leV_leB (n : Int) (h : 0 ≤ n) (k : Nat) : leV (leB n k) = n % 256 ^ k := by
  induction k with
  | zero => simp [leB, leV]
  | succ k ih =>
    rw [leB_succ, leV_snoc, ih, leB_len]
    have hm : 0 ≤ n / 256 ^ k % 256 := Int.emod_nonneg _ (by omega)
    have hm2 : n / 256 ^ k % 256 < 256 := Int.emod_lt_of_pos _ (by omega)
    have e : (UInt8.ofNat (n / 256 ^ k % 256).toNat).toNat = (n / 256 ^ k % 256).toNat := by
      rw [UInt8.toNat_ofNat']; omega
    rw [e, Int.toNat_of_nonneg hm, Int.pow_succ]
    have hp : (0 : Int) < 256 ^ k := Int.pow_pos (by omega)
    generalize (256 : Int) ^ k = a at *
    have h1 := Int.emod_add_mul_ediv n a
    have h2 := Int.emod_add_mul_ediv (n / a) 256
    have h3 := Int.emod_nonneg n (by omega : a ≠ 0)
    have h4 := Int.emod_lt_of_pos n hp
    generalize n / a = q at *
    generalize q / 256 = z at *
    generalize q % 256 = r at *
    generalize n % a = t at *
    have h5 : n = t + r * a + a * 256 * z := by
      rw [← h1, ← h2, Int.mul_add, Int.mul_comm a r, Int.mul_assoc, Int.add_assoc]
    rw [h5, Int.add_mul_emod_self_left, Int.emod_eq_of_lt]
    · have := Int.mul_nonneg hm (Int.le_of_lt hp); omega
    · have : r * a ≤ 255 * a := Int.mul_le_mul_of_nonneg_right (by omega) (Int.le_of_lt hp)
      omega
theorem byteCells_snoc (l : List UInt8) (b : UInt8) : Lib.byteCells (l ++ [b]) = Lib.byteCells l ++ [.int .u8 (b.toNat : Int)] := by rw [Lib.byteCells_append]; rfl
theorem u8wrap (z : Int) : IntKind.u8.wrap z = z % 256 := by unfold IntKind.wrap; simp [IntKind.signed, IntKind.bits]
theorem put_cells (l : List UInt8) (n : Int) (j : Nat) : Lib.byteCells (l ++ leB n (j + 1)) = Lib.byteCells (l ++ leB n j) ++ [.int .u8 (IntKind.u8.wrap (n / 256 ^ j))] := by
  rw [leB_succ, ← List.append_assoc, byteCells_snoc, u8wrap]
  have hm : 0 ≤ n / 256 ^ j % 256 := Int.emod_nonneg _ (by omega)
  have hm2 : n / 256 ^ j % 256 < 256 := Int.emod_lt_of_pos _ (by omega)
  have e : (UInt8.ofNat (n / 256 ^ j % 256).toNat).toNat = (n / 256 ^ j % 256).toNat := by
    rw [UInt8.toNat_ofNat']; omega
  rw [e, Int.toNat_of_nonneg hm]
theorem pow_next (n : Int) (j : Nat) : n / 256 ^ j / 256 = n / 256 ^ (j + 1) := by
  have hp : (0 : Int) < 256 ^ j := Int.pow_pos (by omega)
  rw [Int.pow_succ, Int.ediv_ediv, if_neg (by omega), Int.sub_zero]
theorem width_any (n : Int) (w : World) : Calls Tryz.prog 72 #[.int .i64 n] w fun e w' => e = .returned (.int .i64 (min (max n 1) 8)) ∧ w' = w := by
  refine opq fun R HR => ?_
  go_enter Tryz.func72, Tryz.ntmps72
  go_wp2
  exact HR.out _ _ ⟨rfl, rfl⟩
def U64 (n : Int) : Prop := 0 ≤ n ∧ n ≤ 18446744073709551615
def intOf : Value → Int
  | .int _ z => z
  | _ => 0
set_option maxRecDepth 10000 in
set_option maxHeartbeats 1000000 in
/-- Put: a number's lowest bytes into a Writer. -/
theorem put_any (B b : Nat) (l : List UInt8) (n : Int) (sz : Int) (k : Nat) (hk : min (max sz 1) 8 = (k : Int)) (w : World) (h : WrF w B b (Lib.byteCells l)) (hn : U64 n) (hlen : l.length + 8 ≤ 140737488355328) (hBw : B ≤ w.heap.size) :
    Calls Tryz.prog 46 #[.pointer (some ⟨b, 0, none⟩), .int .u64 n, .int .i64 sz] w fun e w' => e = .returned (.tuple #[]) ∧ WrF w' B b (Lib.byteCells (l ++ leB n k)) ∧ Below B w w' ∧ Lib.OthersKept 5 (some b) w w' := by
  refine opq fun R HR => ?_
  have H := Lib.hid h
  have HN := Lib.hid hn
  have HK := Lib.hid hk
  have hk8 : k ≤ 8 := by omega
  clear h hn hk
  go_enter Tryz.func46, Tryz.ntmps46
  go_wp2_with fail
  refine (width_any _ _).mono ?_
  rintro e w1 ⟨rfl, rfl⟩
  rw [HK.out]
  go_wp2_with fail
  go_loopw [10, 1] (fun i v wr => ∃ j : Nat, j ≤ k ∧ i = .int .i64 j ∧ v = .int .u64 (n / 256 ^ j) ∧ WrF wr B b (Lib.byteCells (l ++ leB n j)) ∧ Below B w1 wr ∧ Lib.OthersKept 5 (some b) w1 wr) (fun i _ _ => k - (intOf i).toNat)
  case atStart => exact ⟨0, by omega, rfl, by simp, by simpa [leB] using H.out, Below.refl _ _, Lib.OthersKept.refl _ _ _⟩
  case round =>
    obtain ⟨j, hj, rfl, rfl, hW, hB, hO⟩ := hrel
    have K1 := Lib.hid hW
    have K2 := Lib.hid hB
    have KO := Lib.hid hO
    clear hW hB hO
    by_cases hlt : j < k
    · have hsz := K2.out.size
      have HB := Lib.hid (w_byte B b (Lib.byteCells (l ++ leB n j)) (IntKind.u8.wrap (n / 256 ^ j)) wr K1.out (by rw [Lib.byteCells_length, List.length_append, leB_len]; omega) (by omega))
      go_wp2_with fail
      refine HB.out.mono ?_
      rintro e w2 ⟨rfl, hW2, hB2, hO2⟩
      have K3 := Lib.hid hW2
      have KP := Lib.hid (KO.out.trans hO2)
      have K4 := Lib.hid (K2.out.trans hB2)
      clear hW2 hB2 hO2 HB K1 K2 KO
      go_wp2_with fail
      go_roundw
      case rel => exact ⟨j + 1, by omega, by go_num, by rw [pow_next], by rw [put_cells]; exact K3.out, K4.out, KP.out⟩
      case measure => simp [intOf]; omega
    · obtain rfl : j = k := by omega
      go_wp2
      go_end0
      exact HR.out _ _ ⟨rfl, K1.out, K2.out, KO.out⟩
set_option maxRecDepth 10000 in
theorem text_any (B b : Nat) (l : List UInt8) (s : ByteArray) (w : World) (h : WrF w B b (Lib.byteCells l)) (hlen : l.length + s.size ≤ 140737488355328) (hBw : B ≤ w.heap.size) :
    Calls Tryz.prog 73 #[.pointer (some ⟨b, 0, none⟩), .string s] w fun e w' => e = .returned (.tuple #[]) ∧ WrF w' B b (Lib.byteCells (l ++ s.data.toList)) ∧ Below B w w' ∧ Lib.OthersKept 5 (some b) w w' := by
  refine opq fun R HR => ?_
  have HS := Lib.hid (w_str B b (Lib.byteCells l) s w h (by rw [Lib.byteCells_length]; exact hlen) hBw)
  clear h
  go_enter Tryz.func73, Tryz.ntmps73
  go_wp2_with fail
  refine HS.out.mono ?_
  rintro e w1 ⟨rfl, h1, h2, h3⟩
  have K1 := Lib.hid h1
  have K2 := Lib.hid h2
  have K3 := Lib.hid h3
  clear h1 h2 h3
  go_wp2
  go_end0
  exact HR.out _ _ ⟨rfl, by rw [Lib.byteCells_append, ← Lib.strCells_eq]; exact K1.out, K2.out, K3.out⟩
set_option maxRecDepth 10000 in
theorem string_any (B b : Nat) (l : List UInt8) (w : World) (h : WrF w B b (Lib.byteCells l)) (h0 : l ≠ []) :
    Calls Tryz.prog 48 #[.pointer (some ⟨b, 0, none⟩)] w fun e w' => e = .returned (.string ⟨l.toArray⟩) ∧ Below B w w' := by
  refine opq fun R HR => ?_
  have HS := Lib.hid (w_string B b l w h h0)
  clear h
  go_enter Tryz.func48, Tryz.ntmps48
  go_wp2_with fail
  refine HS.out.mono ?_
  rintro e w1 ⟨rfl, h1⟩
  have K1 := Lib.hid h1
  clear h1
  go_wp2
  exact HR.out _ _ ⟨rfl, K1.out⟩
end Go.Proofs.YtjkndfenniongaaGreatDoor
