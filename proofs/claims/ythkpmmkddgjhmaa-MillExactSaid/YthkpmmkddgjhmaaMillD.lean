import Derived.Test.YthkpmmkddgjhmaaMillC
import Derived.Test.YthkpmmkddgjhmaaShelf2
import Derived.Lib.VarintMem
set_option linter.unusedSimpArgs false
set_option linter.unusedVariables false
namespace Go.Proofs.Ythkpmmkddgjhmaa
open Go Go.RowKit
theorem bF_same {w w' : World} {T e : TypeId} {B b : Nat} {bs : List Value} (h : Lib.IsBuilderF T e B b bs w) (M : Same w w') : Lib.IsBuilderF T e B b bs w' := by
  have k : ∀ p, Lib.BuilderAtF T e B b p bs w → Lib.BuilderAtF T e B b p bs w' := by
    rintro p ⟨hB, v, hb, ⟨hl, hown⟩, hne⟩
    have old : ∀ g o, w.heap[g]? = some o → w'.heap[g]? = some o := fun g o hg => by
      have hlt : g < w.heap.size := by
        rcases Nat.lt_or_ge g w.heap.size with q | q
        · exact q
        · rw [Array.getElem?_eq_none q] at hg; cases hg
      exact (M.block g hlt (fun q => q)).trans hg
    refine ⟨hB, v, old _ _ hb, ⟨hl, ?_⟩, hne⟩
    rcases hown with h0 | ⟨g, cap, cur, fz, hv, hb', hh, r⟩
    · exact .inl h0
    · exact .inr ⟨g, cap, cur, fz, hv, hb', old _ _ hh, r⟩
  exact h.elim (fun x => .inl (k _ x)) (fun x => .inr (k _ x))
theorem bF_new (w : World) : Lib.IsBuilderF 100 5 w.heap.size w.heap.size (Lib.byteCells []) (w.alloc (.cells #[.pointer none, .slice none 0 0] 100)) :=
  .inl ⟨Nat.le_refl _, .slice none 0 0, by (show (w.heap.push _)[w.heap.size]? = _; exact Array.getElem?_push_size), World.ownsRowF_of (World.ownsRow_nil _ _ _ _), by simp [Value.ownBlock]⟩
/-- The bytes of k sectors. -/
def dataL (b : Int) : Nat → List UInt8
  | 0 => []
  | k + 1 => (dataL b k ++ [k.toUInt8]) ++ Lib.repeatL (strOfNums [b]).data.toList 15
theorem dataL_len (b : Int) (k : Nat) : (dataL b k).length = 16 * k := by
  induction k with
  | zero => rfl
  | succ k ih => simp [dataL, ih, Lib.repeatL_length, strOfNums]; omega
theorem cells_next (b : Int) (k : Nat) (hk : k < 256) : Lib.byteCells (dataL b (k + 1)) = (Lib.byteCells (dataL b k) ++ [.int .u8 (k : Int)]) ++ Lib.strCells ⟨(Lib.repeatL (strOfNums [b]).data.toList 15).toArray⟩ := by
  rw [show Lib.strCells ⟨(Lib.repeatL (strOfNums [b]).data.toList 15).toArray⟩ = Lib.byteCells (Lib.repeatL (strOfNums [b]).data.toList 15) from rfl, ← Lib.byteCells_snoc _ hk, ← Lib.byteCells_append]; rfl
set_option maxRecDepth 10000 in
set_option maxHeartbeats 4000000 in
theorem data_any (M D : Nat) (sz s : Int) (n : Nat) (w : World) (h : MS w M D sz s) (hs : U64 s) (hn : n ≤ 100) :
    Calls Try.prog 29 #[dptr M, .int .i64 n] w (Mills w D fun v => ∃ b, v = .string b) := by
  refine opq fun R HR => ?_
  have H := Lib.hid h
  have hcm := h.m.cell
  have HT1 := Lib.hid (dbelow_any D s 200 w h.d hs (by omega))
  have HU1 := Lib.hid (belS_u 200 s hs)
  have hb1 := belV_bd 200 s
  clear h
  generalize belV 200 s = v1 at *
  generalize belS 200 s = t1 at *
  have e1 : IntKind.i64.wrap (1 + v1) = 1 + v1 := IntWalk.i64_in _ (by omega)
  have eb : IntKind.u8.wrap (1 + v1) = 1 + v1 := by unfold IntKind.wrap; simp [IntKind.signed, IntKind.bits]; omega
  go_enter Try.func29, Try.ntmps29
  go_wp2_with fail
  refine HT1.out.mono ?_
  rintro e w1 ⟨rfl, h1, M1⟩
  have J1 := Lib.hid h1
  have J2 := Lib.hid M1
  clear h1 M1 HT1 hcm
  go_wp2_with fail
  have B0 := Lib.hid (bF_new w1)
  have S0 := Lib.hid ((Mod.refl (fun _ => False) w1).alloc (.cells #[.pointer none, .slice none 0 0] 100))
  generalize w1.alloc _ = W at *
  go_loopw [16, 7] (fun i _ wr => ∃ k : Nat, k ≤ n ∧ i = .int .i64 k ∧ Lib.IsBuilderF 100 5 w1.heap.size w1.heap.size (Lib.byteCells (dataL (1 + v1) k)) wr ∧ Same w1 wr) (fun i _ _ => n - (intOf i).toNat)
  case atStart => exact ⟨0, by omega, rfl, B0.out, S0.out⟩
  case round =>
    obtain ⟨k, hk, rfl, hB, hS⟩ := hrel
    by_cases hlt : k < n
    · have K1 := Lib.hid hB
      have K2 := Lib.hid hS
      have hsz : w1.heap.size ≤ wr.heap.size := hS.size
      clear hB hS
      have hlen := dataL_len (1 + v1) k
      have ek : IntKind.u8.wrap (k : Int) = (k : Int) := by unfold IntKind.wrap; simp [IntKind.signed, IntKind.bits]; omega
      have HN := Lib.hid (cells_next (1 + v1) k (by omega))
      have HW := Lib.hid (Try.Builder_WriteByte_k w1.heap.size w1.heap.size _ (k : Int) wr K1.out (by rw [Lib.byteCells_length, hlen]; omega) hsz)
      have hl2 : (Lib.byteCells (dataL (1 + v1) k) ++ [Value.int .u8 (k : Int)]).length = 16 * k + 1 := by rw [List.length_append, Lib.byteCells_length, hlen]; rfl
      have HL2 := Lib.hid hl2
      clear hl2 hlen
      generalize Lib.byteCells (dataL (1 + v1) k) ++ [Value.int .u8 (k : Int)] = cs at *
      go_wp2_with fail
      refine HW.out.mono ?_
      rintro e w2 ⟨rfl, hB2, hS2, _⟩
      have K3 := Lib.hid hB2
      have K4 := Lib.hid (K2.out.then_ (Mod.of_below (S := fun i => w1.heap.size ≤ i) hS2 (fun _ _ q => q)) (fun i hi (q : w1.heap.size ≤ i) => by omega))
      have hsz2 : w1.heap.size ≤ w2.heap.size := K4.out.size
      clear hB2 hS2 K1 K2 HW
      have kc := fun (w : World) => conv1 w (1 + v1)
      go_wp2_with fail
      clear kc
      refine (Lib.hid (Try.strings_Repeat (strOfNums [1 + v1]) 15 (w2.alloc (.cells #[.int .u8 (1 + v1)] 5)) (by decide) (by rw [strOfNums_size]; show 1 * 15 ≤ 140737488355328; omega))).out.mono ?_
      rintro e w3 ⟨rfl, hS3⟩
      have K5 := Lib.hid (K4.out.alloc (.cells #[.int .u8 (1 + v1)] 5) |>.same (Same.of_below hS3))
      have K6 := Lib.hid (bF_same (Lib.IsBuilderF.alloc (.inr K3.out) (.cells #[.int .u8 (1 + v1)] 5)) (Same.of_below hS3))
      have hsz3 : w1.heap.size ≤ w3.heap.size := K5.out.size
      clear hS3 K3 K4
      have hl4 : ((⟨(Lib.repeatL (strOfNums [1 + v1]).data.toList 15).toArray⟩ : ByteArray)).size = 15 := by simp [ByteArray.size, Lib.repeatL_length, strOfNums]
      have HW2 := Lib.hid (Try.Builder_WriteString_k w1.heap.size w1.heap.size cs ⟨(Lib.repeatL (strOfNums [1 + v1]).data.toList 15).toArray⟩ w3 K6.out (by rw [HL2.out, hl4]; omega) hsz3)
      rw [← HN.out] at HW2
      clear HN HL2 K6 hl4
      go_wp2_with fail
      refine HW2.out.mono ?_
      rintro e w4 ⟨rfl, hB4, hS4, _⟩
      have K7 := Lib.hid hB4
      have K8 := Lib.hid (K5.out.then_ (Mod.of_below (S := fun i => w1.heap.size ≤ i) hS4 (fun _ _ q => q)) (fun i hi (q : w1.heap.size ≤ i) => by omega))
      clear hB4 hS4 K5 HW2
      go_wp2
      go_roundw
      case rel => exact ⟨k + 1, by omega, by go_num, .inr K7.out, K8.out⟩
      case measure => simp [intOf]; omega
    · obtain rfl : k = n := by omega
      have K1 := Lib.hid hB
      have K2 := Lib.hid hS
      have hsz : w1.heap.size ≤ wr.heap.size := hS.size
      clear hB hS
      go_wp2_with fail
      refine (Lib.hid (Try.Builder_String_any_k w1.heap.size w1.heap.size (dataL (1 + v1) k) wr K1.out hsz)).out.mono ?_
      rintro e w2 ⟨rfl, _, hS2, _⟩
      have K4 := Lib.hid (K2.out.then_ (Mod.of_below (S := fun i => w1.heap.size ≤ i) hS2 (fun _ _ q => q)) (fun i hi (q : w1.heap.size ≤ i) => by omega))
      clear hS2
      go_wp2
      exact HR.out _ _ ⟨_, _, rfl, ⟨_, rfl⟩, HU1.out, J1.out.mod K4.out (fun q => q), J2.out.same K4.out⟩
end Go.Proofs.Ythkpmmkddgjhmaa
