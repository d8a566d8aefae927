import Derived.Test.YtlcepoagpocadaaGreatDoorPackS
import Derived.Test.YtlcepoagpocadaaGreatDoorShelfT
import Derived.Lib.AppendIntMem
import Derived.Deep.AppendLies
import Derived.Deep.CutBlock
import Derived.Deep.DeepCutAuto
set_option linter.unusedSimpArgs false
set_option linter.unusedVariables false
namespace Go.Proofs.YtlcepoagpocadaaGreatDoor
open Go Go.RowKit
/-- The table that Itoa reads lies there. -/
abbrev TabOK (w : World) : Prop := Lib.TabIs Tryz.prog w "internal/strconv.uint64pow10" .u64 Lib.pow10Tab
theorem tabG : Tryz.prog.globalNamed "internal/strconv.uint64pow10" = some 1 := by kernel_rfl
theorem tab_lt {w : World} (h : TabOK w) : 1 < w.heap.size := by
  unfold TabOK Lib.TabIs World.var? at h
  rw [tabG] at h
  rcases Nat.lt_or_ge 1 w.heap.size with q | q
  · exact q
  · simp [Array.getElem?_eq_none q] at h
theorem tab_block {w w' : World} (h : TabOK w) (e : w'.heap[1]? = w.heap[1]?) : TabOK w' := by
  unfold TabOK Lib.TabIs World.var? at h ⊢
  rw [tabG] at h ⊢
  simp only [Option.bind_some] at h ⊢
  rw [e]; exact h
theorem tab_same {w w' : World} (h : TabOK w) (M : Same w w') : TabOK w' := tab_block h (M.block 1 (tab_lt h) (fun q => q))
theorem tab_below {w w' : World} {B : Nat} (h : TabOK w) (M : Below B w w') (hB : 1 < B) : TabOK w' := tab_block h (M.block 1 hB)
def J64 (n : Int) : Prop := -9223372036854775808 ≤ n ∧ n ≤ 9223372036854775807
theorem itoa_any (n : Int) (hn : J64 n) (w : World) (hT : TabOK w) : Calls Tryz.prog 85 #[.int .i64 n] w fun e w' => e = .returned (.string ⟨(Lib.itoa n).toArray⟩) ∧ Same w w' :=
  (Tryz.strconv_Itoa n hn.1 hn.2 w hT).mono fun e w' ⟨h1, k, os, h2⟩ => ⟨h1, by rw [h2]; exact Same.of_below (Lib.below_grow w.heap.size w (Nat.le_refl _) k os)⟩
theorem owns_same {w w' : World} {base size n : Nat} {e : TypeId} {v : Value} {xs : List Value} (h : w.ownsRow base e size v n xs) (M : Same w w') : w'.ownsRow base e size v n xs := own_mod2 h M (fun _ _ q => q)
/-- The word of a kind of orders. -/
def wordL (k : Nat) : List UInt8 := ([[99, 114, 101, 97, 116, 101], [100, 101, 108, 101, 116, 101], [115, 110, 97, 112], [114, 101, 115, 105, 122, 101], [112, 105, 110], [102, 114, 101, 101], [114, 101, 97, 100], [119, 114, 105, 116, 101], [100, 105, 115, 99, 97, 114, 100], [102, 108, 117, 115, 104], [116, 105, 99, 107], [100, 101, 99, 97, 121], [115, 116, 97, 116, 117, 115], [102, 117, 115, 101], [99, 114, 97, 115, 104]] : List (List UInt8)).getD k []
/-- An order's line, where it bears no text. -/
def textN (j : Nat) (ns : List Int) : List UInt8 := Lib.join (wordL j :: ns.map Lib.itoa) [32]
theorem row_one (w : World) (B : Nat) (hB : B ≤ w.heap.size) (x : Value) : (w.alloc (.cells #[x] 9)).ownsRow B 9 1 (.slice (some ⟨w.heap.size, 0, none⟩) 1 1) 1 [x] :=
  ⟨rfl, .inr ⟨_, 1, #[x], rfl, hB, heap_new _ _, by omega, by unfold maxLen; omega, rfl, rfl⟩⟩
theorem row_two (w : World) (o : Obj) (x : Value) : ((w.alloc o).alloc (.cells #[x] 9)).ownsRow w.heap.size 9 1 (.slice (some ⟨w.heap.size + 1, 0, none⟩) 1 1) 1 [x] := by
  have := row_one (w.alloc o) w.heap.size ((Mod.alloc (Mod.refl (fun _ => False) w) o).size) x
  rwa [World.size_alloc] at this
/-- The words of a line, behind k numbers. -/
def wordsK (j : Nat) (ns : List Int) (k : Nat) : List Value := .string ⟨(wordL j).toArray⟩ :: (ns.take k).map fun n => .string ⟨(Lib.itoa n).toArray⟩
theorem wordsK_succ (j : Nat) (ns : List Int) (k : Nat) (x : Int) (hx : ns[k]? = some x) : wordsK j ns (k + 1) = wordsK j ns k ++ [.string ⟨(Lib.itoa x).toArray⟩] := by
  obtain ⟨hk, rfl⟩ := List.getElem?_eq_some_iff.1 hx
  unfold wordsK
  rw [List.take_succ_eq_append_getElem hk, List.map_append]; rfl
/-- The strings of a line. -/
def lineS (j : Nat) (ns : List Int) : List ByteArray := ⟨(wordL j).toArray⟩ :: ns.map fun n => ⟨(Lib.itoa n).toArray⟩
theorem lineS_join (j : Nat) (ns : List Int) : Lib.join ((lineS j ns).map (·.data.toList)) [32] = textN j ns := by
  unfold lineS textN; simp [List.map_map, Function.comp_def]
theorem wordsK_all (j : Nat) (ns : List Int) (k : Nat) (hk : ns.length ≤ k) : wordsK j ns k = (lineS j ns).map Value.string := by
  unfold wordsK lineS; rw [List.take_of_length_le hk]; simp [List.map_map, Function.comp_def]
set_option maxRecDepth 10000 in
set_option maxHeartbeats 2000000 in
theorem line_any (j : Nat) (hj : j < 15) (ns : List Int) (hn : ∀ n ∈ ns, J64 n) (hl : ns.length ≤ 1000) (htl : (textN j ns).length ≤ 140737488355328) (cs : Array Value) (w : World) (hT : TabOK w) (hp : ∀ w, Calls Tryz.prog 73 #[.iface (kT j) (.agg cs)] w (PartsV w (ns.map (Value.int .i64)) [])) :
    Calls Tryz.prog 51 #[.iface (kT j) (.agg cs)] w fun e w' => e = .returned (.tuple #[.string ⟨(textN j ns).toArray⟩, .int .i64 0]) ∧ Same w w' := by
  refine opq fun R HR => ?_
  have HP := Lib.hid hp
  have HN := Lib.hid hn
  have HT := Lib.hid hT
  have HTL := Lib.hid htl
  clear hp hn hT htl
  obtain ⟨n, hnl⟩ : ∃ n, ns.length = n := ⟨_, rfl⟩
  have HNL := Lib.hid hnl
  have hn1000 : n ≤ 1000 := by omega
  obtain ⟨T, hTj⟩ : ∃ T, kT j = T := ⟨_, rfl⟩
  have HTj := Lib.hid hTj
  rw [hTj] at HP ⊢
  clear hnl hl hTj
  go_enter Tryz.func51, Tryz.ntmps51
  go_wp2_with fail
  refine (HP.out _).mono ?_
  rintro e w1 ⟨a1, c1, a2, c2, rfl, r1, r2, M⟩
  rw [List.length_map, HNL.out] 
  have K1 := Lib.hid r1
  have S1 := Lib.hid M
  clear r1 r2 M HP
  go_upto_region 4 with fail
  go_cut [7] (fun v wx => ∃ g, v = .slice (some ⟨g, 0, none⟩) 1 1 ∧ wx.ownsRow w1.heap.size 9 1 v 1 [.string ⟨(wordL j).toArray⟩] ∧ Same w1 wx)
  case first => as_aux_lemma =>
    have h : j = 0 ∨ j = 1 ∨ j = 2 ∨ j = 3 ∨ j = 4 ∨ j = 5 ∨ j = 6 ∨ j = 7 ∨ j = 8 ∨ j = 9 ∨ j = 10 ∨ j = 11 ∨ j = 12 ∨ j = 13 ∨ j = 14 := by omega
    have hTT := HTj.out
    rcases h with rfl | rfl | rfl | rfl | rfl | rfl | rfl | rfl | rfl | rfl | rfl | rfl | rfl | rfl | rfl
    all_goals
      obtain rfl := hTT
      go_wp2_with go_in
      go_meet
      exact ⟨_, rfl, row_two _ _ _, ((Mod.refl _ w1).alloc _).alloc _⟩
  case rest =>
    obtain ⟨g0, rfl, hown, M⟩ := hcut
    obtain ⟨i0, hi, hz0, hz1, hz2⟩ := info_parts info9
    have I0 := Lib.hid hi
    have Z0 := Lib.hid hz0
    have Z1 := Lib.hid hz1
    have Z2 := Lib.hid hz2
    have W0 := Lib.hid hown
    have M0 := Lib.hid M
    clear hi hz0 hz1 hz2 hown M
    go_wp2_with fail
    go_loopw [25, 9, 7] (fun i _ v wr => ∃ k : Nat, k ≤ n ∧ i = .int .i64 k ∧ wr.ownsRow w1.heap.size 9 1 v (1 + k) (wordsK j ns k) ∧ Same w1 wr) (fun i _ _ _ => n - (intOf i).toNat)
    case atStart => exact ⟨0, by omega, rfl, W0.out, M0.out⟩
    case round =>
      obtain ⟨k, hk, rfl, hown, M⟩ := hrel
      by_cases hlt : k < n
      · have hkL : k < ns.length := by rw [HNL.out]; exact hlt
        obtain ⟨x, hx⟩ : ∃ x, ns[k]? = some x := ⟨_, List.getElem?_eq_getElem hkL⟩
        obtain ⟨b, o, rfl, hb0, hb, _, hc⟩ := K1.out (by rw [List.length_map]; omega)
        have hcx := (M.cell hb (fun q => q) (o + k)).trans (hc k (.int .i64 x) (by rw [List.getElem?_map, hx]; rfl))
        have hxm : J64 x := HN.out x (List.mem_of_getElem? hx)
        have HI := Lib.hid (itoa_any x hxm wr (tab_same HT.out (S1.out.same M)))
        have E := Lib.hid (wordsK_succ j ns k x hx)
        have K5 := Lib.hid hown
        have K6 := Lib.hid M
        clear hown M hx hc hkL hxm
        go_wp2_with fail
        refine HI.out.mono ?_
        rintro e w2 ⟨rfl, M2⟩
        have K7 := Lib.hid (owns_same K5.out M2)
        have K8 := Lib.hid (K6.out.same M2)
        have hsz : w1.heap.size ≤ w2.heap.size := K8.out.size
        clear M2 K5 K6 HI hcx
        generalize (⟨(Lib.itoa x).toArray⟩ : ByteArray) = sx at *
        go_wp2_with (at_builtin; refine wpList_append_own _ rfl (.tmp 29) (.tmp 32) 32 rfl w1.heap.size 9 i0 (.string ⟨#[]⟩) 1 16 Tryz.underlying32 I0.out Z0.out Z1.out Z2.out rfl (by decide) _ _ _ rfl (K7.out.alloc _) ⟨w2.heap.size, 0, none⟩ 1 1 [.string sx] rfl rfl (one_new _ _ _) (fun u hu => (by simp at hu; subst hu; rfl)) (by unfold maxLen; omega) (by omega) (by simp only [World.size_alloc]; omega) ?_; intro v' w3 hown' hgrow _)
        have P1 := Lib.hid (same_append K8.out K7.out hgrow)
        have P2 := Lib.hid hown'
        clear hown' hgrow
        go_roundw
        case rel => exact ⟨k + 1, by omega, by go_num, by rw [E.out]; exact P2.out, P1.out⟩
        case measure => simp [intOf]; omega
      · obtain rfl : k = n := by omega
        have K5 := Lib.hid hown
        have K6 := Lib.hid M
        obtain ⟨g, cap, rfl, hg0, hgc, hrow⟩ := RowV.of_owns hown (by omega)
        have hlen : (lineS j ns).length = 1 + k := by unfold lineS; rw [List.length_cons, List.length_map, HNL.out]; omega
        have hcells : ∀ (i : Nat) x, (lineS j ns)[i]? = some x → wr.cell? ⟨g, 0 + i, none⟩ = some (.string x) := by
          intro i x hx
          have hi : i < (lineS j ns).length := (List.getElem?_eq_some_iff.1 hx).1
          rw [Nat.zero_add]
          refine (hrow.cell i (by omega)).trans ?_
          rw [wordsK_all j ns k (by rw [HNL.out]; exact Nat.le_refl _), List.getD_eq_getElem?_getD, List.getElem?_map, hx]; rfl
        have HJ := Lib.hid (Tryz.strings_Join g 0 cap (lineS j ns) ⟨#[32]⟩ wr hcells hrow.lt (by omega) (by omega) (by show (Lib.join _ [32]).length ≤ _; rw [lineS_join]; exact HTL.out))
        rw [show (⟨#[32]⟩ : ByteArray).data.toList = [32] from rfl, lineS_join, hlen] at HJ
        clear hown M hrow hcells hlen W0 M0 K5 I0 Z0 Z1 Z2 hg0 HTL HN HNL K1
        generalize textN j ns = tl at *
        go_wp2_with fail
        go_loopw [37, 7] (fun i v wz => i = .int .i64 0 ∧ v = .slice (some ⟨g, 0, none⟩) (1 + k) cap ∧ wz = wr) (fun i _ _ => 0)
        case atStart => exact ⟨rfl, rfl, rfl⟩
        case round =>
        obtain ⟨rfl, rfl, rfl⟩ := hrel
        go_wp2_with fail
        refine HJ.out.mono ?_
        rintro e w2 ⟨rfl, M2⟩
        have K7 := Lib.hid (S1.out.same (K6.out.same (Same.of_below M2)))
        clear M2
        go_wp2
        exact HR.out _ _ ⟨rfl, K7.out⟩
end Go.Proofs.YtlcepoagpocadaaGreatDoor
