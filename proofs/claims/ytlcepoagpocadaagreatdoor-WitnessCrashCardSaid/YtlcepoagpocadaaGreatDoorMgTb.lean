import Derived.Test.YtlcepoagpocadaaGreatDoorMgTa
set_option linter.unusedSimpArgs false
set_option linter.unusedVariables false
set_option maxRecDepth 100000
/- When a dump with another sector is told: the three cases. -/
namespace Go.Proofs.YtlcepoagpocadaaGreatDoor
open Go Go.RowKit
section
variable {S : MS} {v0 : Vo} {x : Nat} {s : List UInt8}
theorem fit_cases (G : Good S) (W : Wf S) (hs : s.length = 16) (hv : v0 ∈ S.vols) (hx : x < v0.size.toNat * S.k) (hz : s ≠ zero16) :
    (needS S v0 (x / S.k) = false → FitD S (dumpX S v0 x s)) ∧ (needS S v0 (x / S.k) = true → FitD S (dumpX S v0 x s) → secS S v0 x = s) := by
  cases hg : getL ((x / S.k : Nat) : Int) v0.pl with
  | none =>
    have e : needS S v0 (x / S.k) = true := by unfold needS; rw [hg]
    refine ⟨fun q => ?_, fun _ f => absurd f (not_fit_none G hs hv hx hg hz)⟩
    rw [e] at q
    cases q
  | some c =>
    have e : needS S v0 (x / S.k) = decide (1 < cnt S.vols c) := by unfold needS; rw [hg]
    have hp : 0 < cnt S.vols c := cnt_pos.2 ⟨v0, hv, _, getL_mem hg, rfl⟩
    rw [e]
    refine ⟨fun q => ?_, fun q f => ?_⟩
    · have q2 := of_decide_eq_false q
      exact fit_alone G W hs hv hg (by omega)
    · refine Classical.byContradiction fun hne => ?_
      exact not_fit_shared G W hs hv hx hg (of_decide_eq_true q) hne f
theorem setF_id (W : Wf S) (hv : v0 ∈ S.vols) (h : secS S v0 x = s) {v : Vo} (hu : v ∈ S.vols) : setF S v0 x s v = secS S v := by
  unfold setF
  split
  · rename_i e
    obtain rfl := pw_ne W.nd hu hv e
    funext i
    unfold upd
    split
    · rename_i q; rw [q, h]
    · rfl
  · rfl
theorem dumpX_id (W : Wf S) (hv : v0 ∈ S.vols) (h : secS S v0 x = s) : dumpX S v0 x s = dumpS S := by
  rw [dump_flat]
  unfold dumpX
  apply List.map_congr_left
  intro v hu
  rw [setF_id W hv h hu]
theorem dumpX_set (G : Good S) (W : Wf S) {j : Nat} (hj : S.vols[j]? = some v0) (hx : x < v0.size.toNat * S.k) :
    (dumpS S).set j ((readS S v0 0 (v0.size.toNat * S.k)).take (x * 16) ++ s ++ (readS S v0 0 (v0.size.toNat * S.k)).drop (x * 16 + 16)) = dumpX S v0 x s := by
  have hv : v0 ∈ S.vols := List.mem_of_getElem? hj
  rw [dumpX_text G hv hx, dump_flat]
  unfold dumpX
  apply List.ext_getElem?
  intro i
  by_cases hi : i = j
  · subst hi
    have hl : i < S.vols.length := (List.getElem?_eq_some_iff.1 hj).1
    rw [List.getElem?_set_self (by rw [List.length_map]; exact hl), List.getElem?_map, hj]
    rfl
  · rw [List.getElem?_set_ne (fun q => hi q.symm), List.getElem?_map, List.getElem?_map]
    cases hu : S.vols[i]? with
    | none => rfl
    | some v =>
      have hne : v.id ≠ v0.id := by
        have h1 := List.pairwise_iff_getElem.1 W.nd
        obtain ⟨a1, a2⟩ := List.getElem?_eq_some_iff.1 hu
        obtain ⟨b1, b2⟩ := List.getElem?_eq_some_iff.1 hj
        rcases Nat.lt_or_gt_of_ne hi with q | q
        · have := h1 i j a1 b1 q
          rw [a2, b2] at this
          omega
        · have := h1 j i b1 a1 q
          rw [a2, b2] at this
          omega
      show some (flat16 _ _) = some (flat16 _ _)
      unfold setF
      rw [if_neg hne]
theorem sec_text (G : Good S) (hv : v0 ∈ S.vols) (hx : x < v0.size.toNat * S.k) : ((readS S v0 0 (v0.size.toNat * S.k)).drop (x * 16)).take 16 = secS S v0 x := by
  rw [readS_flat]
  exact flat_at _ (fun i _ => secS_16 G hv i) hx
theorem dump_get {j : Nat} (hj : S.vols[j]? = some v0) : txF (dumpS S) j = .string ⟨(readS S v0 0 (v0.size.toNat * S.k)).toArray⟩ := by
  unfold txF dumpS
  rw [List.getD_eq_getElem?_getD, List.getElem?_map, hj]
  rfl
end
/-- The sector of which nobody knows. -/
def sT : List UInt8 := [48, 49, 50, 51, 52, 53, 54, 55, 56, 57, 97, 98, 99, 100, 101, 102]
theorem str_add (a b : List UInt8) : (⟨a.toArray⟩ : ByteArray) ++ ⟨b.toArray⟩ = ⟨(a ++ b).toArray⟩ := by
  apply ByteArray.ext
  rw [ByteArray.data_append]
  simp
theorem ext_cut (l : List UInt8) (a b : Nat) : (⟨l.toArray⟩ : ByteArray).extract a b = ⟨((l.drop a).take (b - a)).toArray⟩ := by
  apply ByteArray.ext
  rw [ByteArray.data_extract]
  apply Array.ext'
  simp [Array.toList_extract, List.extract_eq_take_drop]
theorem text3 (T s : List UInt8) (x q : Nat) (hT : T.length = q * 16) : (⟨T.toArray⟩ : ByteArray).extract 0 (16 * x) ++ ⟨s.toArray⟩ ++ (⟨T.toArray⟩ : ByteArray).extract (16 * x + 16) (q * 16) = ⟨(T.take (x * 16) ++ s ++ T.drop (x * 16 + 16)).toArray⟩ := by
  rw [ext_cut, ext_cut, str_add, str_add, List.drop_zero, Nat.sub_zero, Nat.mul_comm 16 x, List.take_of_length_le (l := T.drop (x * 16 + 16)) (by rw [List.length_drop, hT]; exact Nat.le_refl _)]
theorem row_set (D : List (List UInt8)) (j : Nat) (t : List UInt8) (i : Nat) (hi : i < D.length) : upd (txF D) j (.string ⟨t.toArray⟩) i = txF (D.set j t) i := by
  unfold upd txF
  rw [List.getD_eq_getElem?_getD, List.getD_eq_getElem?_getD]
  by_cases h : i = j
  · subst h
    rw [if_pos rfl, List.getElem?_set_self hi]; rfl
  · rw [if_neg h, List.getElem?_set_ne (fun e => h e.symm)]
theorem TxE.old {B : Nat} {w : World} {g n c : Nat} {xs : List (List UInt8)} (h : TxE B w (.slice (some ⟨g, 0, none⟩) n c) xs) (hp : 0 < xs.length) : g < w.heap.size := by
  obtain ⟨a, c, e, -, k⟩ := h.ex
  injection e with e1 _ _
  obtain ⟨g', e2, _, r⟩ := k hp
  rw [← e1] at e2
  injection e2 with e2
  injection e2 with e2 _ _
  rw [e2]
  exact r.lt
theorem TvE.old {B : Nat} {w : World} {g n c : Nat} {l : List Vo} (h : TvE B w (.slice (some ⟨g, 0, none⟩) n c) l) (hp : 0 < l.length) : g < w.heap.size := by
  obtain ⟨a, c, e, k⟩ := h.ex
  injection e with e1 _ _
  obtain ⟨g', e2, _, r⟩ := k hp
  rw [← e1] at e2
  injection e2 with e2
  injection e2 with e2 _ _
  rw [e2]
  exact r.lt
theorem needS_sec (S : MS) (sec : Nat → List (List UInt8)) (v : Vo) (p : Nat) : needS { S with sec := sec } v p = needS S v p := rfl
end Go.Proofs.YtlcepoagpocadaaGreatDoor
