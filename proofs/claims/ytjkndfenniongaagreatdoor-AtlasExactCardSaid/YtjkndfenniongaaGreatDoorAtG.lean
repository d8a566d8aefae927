import Derived.Test.YtjkndfenniongaaGreatDoorAtF
import Derived.Deep.RegionLaw
import Derived.Deep.AppendLies
set_option linter.unusedSimpArgs false
set_option linter.unusedVariables false
set_option maxRecDepth 100000
/- A device of an image. -/
namespace Go.Proofs.YtjkndfenniongaaGreatDoor
open Go Go.RowKit
theorem info9 : (Tryz.prog.info? 9).map (fun i => (i.zero, i.size, i.bytes)) = some (some (.string ⟨#[]⟩), 1, 16) := by kernel_rfl
def secK (l : List UInt8) (k : Nat) : List (List UInt8) := (List.range k).map fun i => (l.drop (16 * i)).take 16
def secN (l : List UInt8) : Nat := min (l.length / 16) 16384
def secs (l : List UInt8) : List (List UInt8) := secK l (secN l)
theorem secK_succ (l : List UInt8) (k : Nat) : secK l (k + 1) = secK l k ++ [(l.drop (16 * k)).take 16] := by unfold secK; rw [List.range_succ, List.map_append]; rfl
theorem secK_len (l : List UInt8) (k : Nat) : (secK l k).length = k := by unfold secK; simp
theorem secs_len (l : List UInt8) : (secs l).length = secN l := secK_len _ _
theorem secs_16 (l : List UInt8) : ∀ s ∈ secs l, s.length = 16 := by
  intro s hs
  unfold secs secK at hs
  obtain ⟨i, hi, rfl⟩ := List.mem_map.1 hs
  have := List.mem_range.1 hi
  unfold secN at this
  rw [List.length_take, List.length_drop]; omega
theorem new_any (w : World) : Calls Tryz.prog 19 #[] w fun e w' => e = .returned (bp w.heap.size) ∧ Blk w' w.heap.size (mcells 0) ∧ Same w w' := by
  refine opq fun R HR => ?_
  go_enter Tryz.func19, Tryz.ntmps19
  go_wp2
  exact HR.out _ _ ⟨rfl, Blk.new w _ _, (Mod.refl _ _).alloc _⟩
theorem blk_grown {w w' : World} {b : Nat} {cs : Array Value} {v : Value} (h : Blk w b cs) (hg : w.grownBy w' v.ownBlock) (hne : v.ownBlock ≠ some b) : Blk w' b cs :=
  h.mod ((Mod.refl (fun i => v.ownBlock = some i) w).grown hg (fun k hk _ => hk)) (fun e => hne e)
theorem own_drew {w : World} {base size n : Nat} {e : TypeId} {v : Value} {xs : List Value} (h : w.ownsRow base e size v n xs) : w.drew.ownsRow base e size v n xs := h
theorem getD_strV (L : List (List UInt8)) (i : Nat) (h : i < L.length) : (L.map strV).getD i undef = strV (L.getD i []) := by
  rw [List.getD_eq_getElem?_getD, List.getD_eq_getElem?_getD, List.getElem?_map, List.getElem?_eq_getElem h]; rfl
theorem two_vals (s : List UInt8) : ∀ u ∈ [strV s], u.oneCell' = true := fun u hu => by simp at hu; subst hu; rfl
set_option maxHeartbeats 4000000 in
theorem of_dev (B m : Nat) (u : Int) (hB : B ≤ m) (l : List UInt8) (hl : l.length ≤ 1000000000) (w : World) (hm : Blk w m (mcells u)) :
    Calls Tryz.prog 18 #[bp m, strV l] w fun e w' => (∃ d lb, e = .returned (bp d) ∧ Dev B w' d m lb u (secs l) (.map [])) ∧ Same w w' := by
  refine opq fun R HR => ?_
  have HM := Lib.hid hm
  have hmlt : m < w.heap.size := hm.lt
  clear hm
  obtain ⟨i0, hi, hz0, hz1, hz2⟩ := info_parts info9
  have I0 := Lib.hid hi
  have Z0 := Lib.hid hz0
  have Z1 := Lib.hid hz1
  have Z2 := Lib.hid hz2
  clear hi hz0 hz1 hz2
  have hmm := @run_makeMap Tryz.prog
  have Lo := Lib.hid (World.ownsMap_made (H := Unit) w Tryz.prog 3 (plainElem Tryz.prog 9))
  have P0 := Lib.hid (show Same w ((w.alloc (.map #[] 0)).alloc (.cells #[bp m, .slice none 0 0, .map (some w.heap.size)] 114)) from ((Mod.refl _ _).alloc _).alloc _)
  have D0 := Lib.hid (Blk.new (w.alloc (.map #[] 0)) #[bp m, .slice none 0 0, .map (some w.heap.size)] 114)
  go_enter Tryz.func18, Tryz.ntmps18
  go_wp2_with fail
  have hsz0 : (w.alloc (.map #[] 0)).heap.size = w.heap.size + 1 := by simp
  rw [hsz0] at D0
  have Lo1 := Lib.hid (Lo.out.alloc (.cells #[bp m, .slice none 0 0, .map (some w.heap.size)] 114))
  clear Lo hmm
  have hsz1 : ((w.alloc (.map #[] 0)).alloc (.cells #[bp m, .slice none 0 0, .map (some w.heap.size)] 114)).heap.size = w.heap.size + 2 := by simp
  generalize (w.alloc (.map #[] 0)).alloc _ = W1 at *
  generalize hlb : w.heap.size = lb at *
  go_loopw [1] (fun vi wr => ∃ (k : Nat) (a : Option Addr) (c : Nat), k ≤ secN l ∧ vi = strV (l.drop (16 * k)) ∧ Blk wr (lb + 1) #[bp m, .slice a k c, .map (some lb)] ∧ wr.ownsRow (lb + 2) 9 1 (.slice a k c) k ((secK l k).map strV) ∧ wr.ownsMap Tryz.prog 3 (plainElem (H := Unit) Tryz.prog 9) lb 0 (.map []) ∧ Below lb w wr ∧ lb + 2 ≤ wr.heap.size) (fun vi _ => match vi with | .string s => s.size | _ => 0)
  case atStart => exact ⟨0, none, 0, by omega, rfl, D0.out, World.ownsRow_nil _ _ _ _, Lo1.out, by rw [← hlb]; exact P0.out.below, by omega⟩
  case round =>
    obtain ⟨k, a, c, hk, rfl, hd, hown, hmap, hbel, hsz⟩ := hrel
    have DD := Lib.hid hd
    have OW := Lib.hid hown
    have MP := Lib.hid hmap
    have BE := Lib.hid hbel
    clear hd hown hmap hbel Lo1 D0 P0
    have e1 := DD.out.at_ (i := 1) _ rfl
    have f1 := DD.out.free 1
    have himl : (l.drop (16 * k)).length = l.length - 16 * k := List.length_drop
    by_cases hlt : k < secN l
    · have hk2 : 16 ≤ l.length - 16 * k ∧ k < 16384 := by unfold secN at hlt; omega
      have hsn := secK_succ l k
      have hdd : (l.drop (16 * k)).drop 16 = l.drop (16 * (k + 1)) := by rw [List.drop_drop]; congr 1
      unfold strV
      generalize l.drop (16 * k) = IM at *
      have hbs := bytes_size IM
      have hx1 : (⟨IM.toArray⟩ : ByteArray).extract 0 16 = ⟨(IM.take 16).toArray⟩ := take_bytes ⟨IM.toArray⟩ 16
      have hx2 : (⟨IM.toArray⟩ : ByteArray).extract 16 IM.length = ⟨(IM.drop 16).toArray⟩ := drop_bytes ⟨IM.toArray⟩ 16
      rw [← himl] at hk2
      have HX1 := Lib.hid hx1
      have HX2 := Lib.hid hx2
      have HSn := Lib.hid hsn
      have HDd := Lib.hid hdd
      have HIl := Lib.hid himl
      have hI1 : IM.length ≤ 1000000000 := by omega
      clear hx1 hx2 hsn hdd himl hsz0
      go_wp2_with fail
      have hx1 := HX1.out
      have hx1v : Value.string ((⟨IM.toArray⟩ : ByteArray).extract 0 16) = strV (IM.take 16) := by rw [hx1]; rfl
      have hne : (Value.slice a k c).ownBlock ≠ some (lb + 1) := fun e => by have := (OW.out.lt _ e).1; omega
      have e1b := (DD.out.alloc (.cells #[.string ⟨(IM.take 16).toArray⟩] 9)).at_ (i := 1) _ rfl
      have f1b := (DD.out.alloc (.cells #[.string ⟨(IM.take 16).toArray⟩] 9)).free 1
      go_region_law (refine step_append_lies _ rfl (.tmp 25) (.tmp 28) 112 rfl (lb + 2) 9 i0 (.string ⟨#[]⟩) 1 16 Tryz.underlying112 I0.out Z0.out Z1.out Z2.out rfl (by decide) (.slice a k c) k _ (by simp [Act.eval, Act.put]) (own_drew (OW.out.alloc _)) ⟨wr.heap.size, 0, none⟩ 1 1 [.string ⟨(IM.take 16).toArray⟩] (by simp [Act.eval, Act.put]) rfl (by have := one_new wr (.string ⟨(IM.take 16).toArray⟩) 9; simpa using this) (two_vals _) (by decide) (by unfold maxLen; omega) (by omega) (by simp; omega) (wr.heap.size + 1) (by simp) ?_; intro g cap w2 hown2 hgrow hat hgl; have D1 := blk_grown ((DD.out.alloc _).drew) hgrow hne; have e1 := D1.at_ (i := 1) _ rfl; have f1 := D1.free 1; have O2 := Lib.hid hown2; have G2 := Lib.hid hgrow; clear hown2 hgrow)
      all_goals
        have hg2 : lb + 2 ≤ g := (O2.out.lt g rfl).1
        have T1 := Lib.hid (show Blk _ (lb + 1) #[bp m, .slice (some ⟨g, 0, none⟩) (k + 1) cap, .map (some lb)] from D1.set 1 (.slice (some ⟨g, 0, none⟩) (k + 1) cap))
        have T2 := Lib.hid (ownsRow_setCell_other (a := ⟨lb + 1, 1, none⟩) O2.out (fun e => by have e2 : g = lb + 1 := (by simpa [Value.ownBlock] using e); omega) (.slice (some ⟨g, 0, none⟩) (k + 1) cap))
        have T3 := Lib.hid (((MP.out.alloc _).drew.kept G2.out (fun e => by have := (OW.out.lt lb e.symm).1; omega)).setCell (a := ⟨lb + 1, 1, none⟩) (show lb ≠ lb + 1 by omega) (.slice (some ⟨g, 0, none⟩) (k + 1) cap))
        have T4 := Lib.hid ((((BE.out.alloc (by omega) _).drew).grown G2.out (by simp; omega) (fun k hk => by have := (OW.out.lt k hk).1; omega)).setCell (p := ⟨lb + 1, 1, none⟩) (show lb ≤ lb + 1 by omega) (.slice (some ⟨g, 0, none⟩) (k + 1) cap))
        have hsz2 : lb + 2 ≤ w2.heap.size := by have := G2.out.size; simp at this; omega
        have hx2 := HX2.out
        clear D1 e1 f1 O2 G2 e1b f1b OW BE MP DD hx1 hx1v hne
        go_wp2_with fail
        go_roundw
        case rel => exact ⟨k + 1, some ⟨g, 0, none⟩, cap, by omega, by rw [← HDd.out], T1.out, by rw [HSn.out, List.map_append]; exact T2.out, T3.out, T4.out, by simp only [World.size_setCell]; exact hsz2⟩
        case measure =>
          show (⟨(IM.drop 16).toArray⟩ : ByteArray).size < (⟨IM.toArray⟩ : ByteArray).size
          rw [bytes_size, bytes_size, List.length_drop]; omega
    · obtain rfl : k = secN l := by omega
      have hcond : ¬ (16 ≤ l.length - 16 * secN l ∧ secN l < 16384) := by unfold secN; omega
      rw [← himl] at hcond
      have HSz := hcond
      unfold strV
      generalize l.drop (16 * secN l) = IM at *
      have hbs := bytes_size IM
      have HF := Lib.hid (show Dev B wr (lb + 1) m lb u (secs l) (.map []) from ⟨by omega, hB, by omega, HM.out.mod (Same.of_below (by rw [hlb]; exact BE.out)) (fun q => q), ⟨a, c, by rw [secs_len]; exact DD.out, fun hp => by
          rw [secs_len] at hp ⊢
          obtain ⟨g, cap, hv, hbg, hc, hr⟩ := RowV.of_owns OW.out (by simpa using hp)
          simp only [Value.slice.injEq] at hv
          obtain ⟨rfl, _, _⟩ := hv
          exact ⟨g, rfl, by omega, by omega, by omega, hr.lt, fun i hi => (hr.cell i (by omega)).trans (by rw [getD_strV _ _ (by rw [secK_len]; exact hi)]; rfl), hr.free⟩⟩, by omega, MP.out.mono (by omega), by rw [secs_len]; unfold secN; omega⟩)
      have HG := Lib.hid (Same.of_below (by rw [hlb]; exact BE.out : Below w.heap.size w wr))
      by_cases h16 : 16 ≤ IM.length
      · have hn : ¬ secN l < 16384 := fun q => HSz ⟨h16, q⟩
        have hn2 : secN l = 16384 := by unfold secN at hn ⊢; omega
        have hI1 : IM.length ≤ 1000000000 := by omega
        clear himl hcond HSz DD OW MP BE hsz0
        rw [hn2] at *
        go_wp2
        exact HR.out _ _ ⟨⟨lb + 1, lb, rfl, HF.out⟩, HG.out⟩
      · clear himl hcond HSz DD OW MP BE hsz0
        go_wp2
        exact HR.out _ _ ⟨⟨lb + 1, lb, rfl, HF.out⟩, HG.out⟩
end Go.Proofs.YtjkndfenniongaaGreatDoor
