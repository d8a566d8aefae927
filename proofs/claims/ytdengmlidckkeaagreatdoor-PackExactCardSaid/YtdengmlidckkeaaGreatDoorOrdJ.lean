import Derived.Test.YtdengmlidckkeaaGreatDoorOrdI
import Derived.Deep.RegionHeld3
import Derived.Deep.AppendLies
set_option linter.unusedSimpArgs false
set_option linter.unusedVariables false
namespace Go.Proofs.YtdengmlidckkeaaGreatDoor
open Go Go.RowKit
theorem enc3 (b : UInt8) : Lib.encodeRune (10240 + (b.toNat : Int)) = [226, 160 + UInt8.ofNat (b.toNat / 64), 128 + UInt8.ofNat (b.toNat % 64)] := by
  have hb : b.toNat < 256 := b.toNat_lt
  unfold Lib.encodeRune
  rw [Lib.encodeRuneZ_three (.inl ⟨by omega, by omega⟩)]
  simp only [List.map_cons, List.map_nil]
  have key : ∀ z : Int, ∀ k : Nat, k < 256 → z = k → z.toNat.toUInt8 = UInt8.ofNat k := by
    intro z k _ e; subst e; rfl
  rw [key _ 226 (by omega) (by omega), key _ (160 + b.toNat / 64) (by omega) (by omega), key _ (128 + b.toNat % 64) (by omega) (by omega), UInt8.ofNat_add, UInt8.ofNat_add]
  rfl
def encL (l : List UInt8) : List UInt8 := l.flatMap fun b => Lib.encodeRune (10240 + (b.toNat : Int))
theorem encL_take (l : List UInt8) (j : Nat) (c : UInt8) (h : l[j]? = some c) : Lib.byteCells (encL (l.take (j + 1))) = Lib.byteCells (encL (l.take j)) ++ [.int .u8 226, .int .u8 (160 + (c.toNat : Int) / 64), .int .u8 (128 + (c.toNat : Int) % 64)] := by
  obtain ⟨hk, rfl⟩ := List.getElem?_eq_some_iff.1 h
  have hb : (l[j]).toNat < 256 := UInt8.toNat_lt _
  unfold encL
  rw [List.take_succ_eq_append_getElem hk, List.flatMap_append, Lib.byteCells_append]
  congr 1
  rw [List.flatMap_singleton, enc3]
  unfold Lib.byteCells
  simp only [List.map_cons, List.map_nil]
  have e1 : (160 + UInt8.ofNat ((l[j]).toNat / 64)).toNat = 160 + (l[j]).toNat / 64 := by rw [UInt8.toNat_add, UInt8.toNat_ofNat']; simp; omega
  have e2 : (128 + UInt8.ofNat ((l[j]).toNat % 64)).toNat = 128 + (l[j]).toNat % 64 := by rw [UInt8.toNat_add, UInt8.toNat_ofNat']; simp; omega
  rw [e1, e2]
  simp
theorem three_newD (w : World) (x y z : Value) (t : TypeId) : ∀ j u, [x, y, z][j]? = some u → (w.drew.alloc (.cells #[x, y, z] t)).cell? (Addr.add ⟨w.heap.size, 0, none⟩ j) = some u := by
  intro j u hj
  have h := (Blk.new w.drew #[x, y, z] t).cell j
  have e : (Addr.add ⟨w.heap.size, 0, none⟩ j) = ⟨w.drew.heap.size, j, none⟩ := by
    show Addr.add ⟨w.drew.heap.size, 0, none⟩ j = _
    unfold Addr.add; split <;> simp_all
  rw [e, h]; simpa using hj
theorem strOfNums_bytes (l : List UInt8) : strOfNums (l.map fun b => (b.toNat : Int)) = ⟨l.toArray⟩ := by
  unfold strOfNums
  congr 2
  rw [List.map_map]
  conv => rhs; rw [← List.map_id l]
  apply List.map_congr_left
  intro b _
  simp
set_option maxRecDepth 10000 in
set_option maxHeartbeats 1000000 in
theorem refrunes_any (l : List UInt8) (hl : l.length ≤ 100000) (w : World) : Calls Tryz.prog 36 #[.string ⟨l.toArray⟩] w fun e w' => e = .returned (.string ⟨(runesL l).toArray⟩) ∧ Same w w' := by
  refine opq fun R HR => ?_
  by_cases hq : l = []
  · subst hq
    go_enter Tryz.func36, Tryz.ntmps36
    go_wp2
    exact HR.out _ _ ⟨rfl, Mod.refl _ _⟩
  · have hq2 : (l == []) = false := by simp [hq]
    have hq3 : l.isEmpty = false := by simp [hq]
    unfold runesL at HR
    rw [if_neg hq] at HR
    have HR2 := Lib.hid (show ∀ e w', e = Ending.returned (.string ⟨(encL l).toArray⟩) ∧ Same w w' → R e w' from HR.out)
    clear HR
    have hsz := bytes_size l
    have hpos : 0 < l.length := List.length_pos_iff.2 hq
    obtain ⟨i0, hi, hz0, hz1, hz2⟩ := info_parts info5
    have I0 := Lib.hid hi
    have Z0 := Lib.hid hz0
    have Z1 := Lib.hid hz1
    have Z2 := Lib.hid hz2
    clear hi hz0 hz1 hz2
    go_enter Tryz.func36, Tryz.ntmps36
    go_wp2_with fail
    go_loopw [4, 3] (fun i v wr => ∃ j : Nat, j ≤ l.length ∧ i = .int .i64 (j : Int) ∧ wr.ownsRow w.heap.size 5 1 v (3 * j) (Lib.byteCells (encL (l.take j))) ∧ Same w wr) (fun i _ _ => l.length - (intOf i).toNat)
    case atStart => exact ⟨0, by omega, rfl, ⟨rfl, .inr ⟨_, 0, #[], rfl, Nat.le_refl _, heap_new _ _, by omega, by unfold maxLen; omega, rfl, rfl⟩⟩, (Mod.refl _ _).alloc _⟩
    case round =>
      obtain ⟨j, hj, rfl, hown, hM⟩ := hrel
      have L1 := Lib.hid hown
      have L2 := Lib.hid hM
      have hszr := hM.size
      by_cases hlt : j < l.length
      · obtain ⟨c, hc⟩ : ∃ c, l[j]? = some c := ⟨_, List.getElem?_eq_getElem hlt⟩
        have kx := fun W => idx_any l j c hc (j : Int) rfl W
        have E := Lib.hid (encL_take l j c hc)
        have hcb : c.toNat < 256 := c.toNat_lt
        have e1 := Lib.hid (show IntKind.u8.wrap (160 + IntKind.u8.wrap ((c.toNat : Int) / 64)) = 160 + (c.toNat : Int) / 64 by rw [u8wrap, u8wrap]; omega)
        have e2 := Lib.hid (show IntKind.u8.wrap (128 + ((c.toNat : Int)).tmod 64) = 128 + (c.toNat : Int) % 64 by rw [u8wrap, Int.tmod_eq_emod_of_nonneg (by omega)]; omega)
        have hll : 3 * j + 3 ≤ maxLen := by unfold maxLen; omega
        have hlm : (3 * j + 3) * 1 ≤ 140737488355328 := by omega
        clear hown hM hc
        go_wp2_with fail
        go_region_held3 (fun w' => True) (first | trivial | assumption | go_keep) ((
          first
          | (refine step_append_lies _ rfl (.tmp 14) (.tmp 25) 64 rfl w.heap.size 5 i0 (.int .u8 0) 1 1 Tryz.underlying64 I0.out Z0.out Z1.out Z2.out rfl (by decide) _ _ _ (by simp [Act.eval, Act.put]) (L1.out.drew.alloc _) ⟨wr.heap.size, 0, none⟩ 3 3 [.int .u8 226, .int .u8 (IntKind.u8.wrap (160 + IntKind.u8.wrap ((c.toNat : Int) / 64))), .int .u8 (IntKind.u8.wrap (128 + ((c.toNat : Int)).tmod 64))] (by simp [Act.eval, Act.put]) rfl (three_newD wr _ _ _ 5) (fun u hu => (by simp at hu; rcases hu with rfl | rfl | rfl <;> rfl)) (by decide) hll hlm (by simp [World.size_alloc]; omega) (wr.heap.size + 1) (by simp) ?_; intro g cap w5 hown' hgrow hgg hgl; have Q1 := Lib.hid hown'; have Q2 := Lib.hid hgrow; clear hown' hgrow)))
        all_goals
          have P1 := Lib.hid (same_append L2.out.drew L1.out.drew Q2.out)
          clear Q2
          go_wp2_with fail
          go_roundw
          case rel => exact ⟨j + 1, by omega, by go_num, by rw [E.out, ← e1.out, ← e2.out]; exact Q1.out, P1.out⟩
          case measure => simp [intOf]; omega
      · obtain rfl : j = l.length := by omega
        rw [List.take_length] at L1
        have hel : (encL l).length = 3 * l.length := runes_len l
        obtain ⟨g, cap, hgv, hg0, hgc, hrow⟩ := RowV.of_owns L1.out (by omega)
        subst hgv
        have kc := fun dst hd => run_convert_bytes_arg (P := Tryz.prog) wr 64 5 Tryz.underlying64 Tryz.underlying5 g 0 (3 * l.length) cap ((encL l).map fun b => (b.toNat : Int)) (by rw [List.length_map, hel]) (fun i hi => by
          rw [Nat.zero_add]
          refine (hrow.cell i (by omega)).trans ?_
          have hi2 : i < (encL l).length := by omega
          rw [List.getD_eq_getElem?_getD, List.getD_eq_getElem?_getD]
          unfold Lib.byteCells
          rw [List.getElem?_map, List.getElem?_map, List.getElem?_eq_getElem hi2]; rfl) dst hd
        have kc2 := kc 9 Tryz.underlying9
        rw [strOfNums_bytes] at kc2
        clear hown hM kc hrow
        go_wp2_with fail
        exact HR2.out _ _ ⟨rfl, L2.out⟩
end Go.Proofs.YtdengmlidckkeaaGreatDoor
