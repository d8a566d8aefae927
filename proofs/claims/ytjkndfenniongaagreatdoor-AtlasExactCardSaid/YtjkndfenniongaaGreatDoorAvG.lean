import Derived.Test.YtjkndfenniongaaGreatDoorAtQ
import Derived.Test.YtjkndfenniongaaGreatDoorAuD
import Derived.Test.YtjkndfenniongaaGreatDoorAuC
set_option linter.unusedSimpArgs false
set_option linter.unusedVariables false
set_option maxRecDepth 100000
/- A store's pages: which there are; a look into an empty map of nodes. -/
namespace Go.Proofs.YtjkndfenniongaaGreatDoor
open Go Go.RowKit Go.Maps Go.ChangeMaps Go.MapKept
section
variable {B B2 : Nat} {w : World} {s d kb fb m lb : Nat} {h : Hd} {at_ u : Int} {S : List (List UInt8)} {D : DataW Unit}
theorem shas_any (t : Sto B w s d kb fb h at_) (hd : Dev B2 w d m lb u S D) (p : Int) :
    Calls Tryz.prog 60 #[bp s, .int .i64 p] w fun e w' => e = .returned (.bool (decide (1 ≤ p ∧ p < ((min (S.length / 16) 512 : Nat) : Int)))) ∧ w' = w := by
  refine opq fun R HR => ?_
  have HP := Lib.hid (spages_any t hd)
  clear t hd
  generalize min (S.length / 16) 512 = n at *
  by_cases h1 : 1 ≤ p
  · by_cases h2 : p < (n : Int)
    · rw [decide_eq_true (⟨h1, h2⟩ : 1 ≤ p ∧ p < (n : Int))] at HR
      go_enter Tryz.func60, Tryz.ntmps60
      go_wp2_with fail
      refine HP.out.mono ?_
      rintro e w1 ⟨rfl, rfl⟩
      go_wp2
      exact HR.out _ _ ⟨rfl, rfl⟩
    · rw [decide_eq_false (fun q => h2 q.2 : ¬ (1 ≤ p ∧ p < (n : Int)))] at HR
      have d2 : decide (p < (n : Int)) = false := decide_eq_false h2
      go_enter Tryz.func60, Tryz.ntmps60
      go_wp2_with fail
      refine HP.out.mono ?_
      rintro e w1 ⟨rfl, rfl⟩
      go_wp2
      exact HR.out _ _ ⟨rfl, rfl⟩
  · rw [decide_eq_false (fun q => h1 q.1 : ¬ (1 ≤ p ∧ p < (n : Int)))] at HR
    go_enter Tryz.func60, Tryz.ntmps60
    go_wp2
    exact HR.out _ _ ⟨rfl, rfl⟩
end
theorem look_empty (w : World) (fb : Nat) (c : Nat) (hb : w.heap[fb]? = some (.map #[] c)) (p : Int) (hp : -9223372036854775808 ≤ p ∧ p ≤ 9223372036854775807) :
    (Instr.lookup 96 (.map (some fb)) (.int .i64 p) true).run Tryz.prog w = .ok (.tuple #[.agg #[.int .i64 0, .slice none 0 0], .bool false]) w := by
  have F : WideElems.Fit (H := Unit) Tryz.prog 3 (fun _ => some (.map [], [])) #[] c := ⟨by simp, stamped_empty c, by simp⟩
  have hz : (zeroValue 75).run Tryz.prog w = .ok (.agg #[.int .i64 0, .slice none 0 0]) w := Tryz.zeroValue75 w
  rcases Maps.fit_look true law3 Tryz.underlying96 hz hb F (keyOf_int_mk Tryz.underlying3 (a := p) (q := .i64) (WalkArith.wf_i64 hp)) with ⟨hrun, _, _⟩ | ⟨e0, y, hmem, _⟩
  · exact hrun
  · simp at hmem
end Go.Proofs.YtjkndfenniongaaGreatDoor
set_option maxRecDepth 100000
/- A store's pages are read. -/
namespace Go.Proofs.YtjkndfenniongaaGreatDoor
open Go Go.RowKit
def pageS (S : List (List UInt8)) (p : Nat) : List UInt8 := joinS ((S.drop (16 * p)).take 16)
def SRead (S : List (List UInt8)) (p : Int) (B : Nat) (e : Ending) (w' : World) : Prop := if 1 ≤ p ∧ p < ((min (S.length / 16) 512 : Nat) : Int) then LeafR (pageS S p.toNat) B e w' else e = .returned (.tuple #[.agg #[.int .i64 0, .slice none 0 0], .int .i64 9])
theorem joinS_eq (S : List (List UInt8)) (h : ∀ s ∈ S, s.length = 16) : (joinS S).length = 16 * S.length := by
  induction S with
  | nil => simp [joinS]
  | cons x S ih =>
    have h1 := h x (by simp)
    have h2 := ih (fun s hs => h s (by simp [hs]))
    simp [joinS]; omega
/-- What leaf.Read hands back, in one shape. -/
theorem leafR_shape {l : List UInt8} {e : Ending} {w' : World} {B : Nat} (h : LeafR l B e w') : ∃ lv a n c er, e = .returned (.tuple #[.agg #[.int .i64 lv, .slice a n c], .int .i64 er]) ∧ ∀ w2, Same w' w2 → LeafR l B (.returned (.tuple #[.agg #[.int .i64 lv, .slice a n c], .int .i64 er])) w2 := by
  unfold LeafR at h ⊢
  cases hp : leafP l with
  | none =>
    rw [hp] at h
    dsimp only at h
    exact ⟨0, none, 0, 0, 3, h, fun w2 M => rfl⟩
  | some q =>
    obtain ⟨lv, L⟩ := q
    rw [hp] at h
    dsimp only at h
    obtain ⟨a, c, he, hP, hb⟩ := h
    exact ⟨lv, a, L.length, c, 0, he, fun w2 M => ⟨a, c, rfl, hP.same M, hb⟩⟩
theorem leafR_mod {l : List UInt8} {lv : Int} {a : Option Addr} {n c : Nat} {er : Int} {w w' : World} {z B : Nat} (h : LeafR l B (.returned (.tuple #[.agg #[.int .i64 lv, .slice a n c], .int .i64 er])) w) (M : Mod (fun i => i = z) w w') (hz : z ≤ B) : LeafR l B (.returned (.tuple #[.agg #[.int .i64 lv, .slice a n c], .int .i64 er])) w' := by
  unfold LeafR at h ⊢
  cases hp : leafP l with
  | none => rw [hp] at h; exact h
  | some q =>
    obtain ⟨lv', L⟩ := q
    rw [hp] at h
    dsimp only at h ⊢
    obtain ⟨a', c', he, hP, hB⟩ := h
    refine ⟨a', c', he, ?_, hB⟩
    simp only [Ending.returned.injEq, Value.tuple.injEq, Array.mk.injEq, List.cons.injEq, Value.agg.injEq, Value.slice.injEq, and_true] at he
    have ha : a = a' := he.1.2.1
    subst ha
    intro hp0
    obtain ⟨b, o, rfl, hb, hc⟩ := hP hp0
    have hne : ¬ b = z := fun q => by have := hB b o rfl; omega
    exact ⟨b, o, rfl, Nat.lt_of_lt_of_le hb M.size, fun i p h1 => ⟨(M.cell hb hne _).trans (hc i p h1).1, (M.cell hb hne _).trans (hc i p h1).2⟩⟩
theorem leafR_mono {l : List UInt8} {B B' : Nat} {e : Ending} {w : World} (h : LeafR l B e w) (hB : B' ≤ B) : LeafR l B' e w := by
  unfold LeafR at h ⊢
  cases hp : leafP l with
  | none => rw [hp] at h; exact h
  | some q =>
    obtain ⟨lv', L⟩ := q
    rw [hp] at h
    dsimp only at h ⊢
    obtain ⟨a', c', he, hP, hb⟩ := h
    exact ⟨a', c', he, hP, fun b o q => by have := hb b o q; omega⟩
set_option maxHeartbeats 4000000 in
theorem sread_any {B B2 : Nat} {w : World} {s d kb fb m lb : Nat} {h : Hd} {at_ u : Int} {S : List (List UInt8)} (t : Sto B w s d kb fb h at_) (hd : Dev B2 w d m lb u S (.map [])) (hS : ∀ s ∈ S, s.length = 16) (p : Int) (hp : -9223372036854775808 ≤ p ∧ p ≤ 9223372036854775807) :
    Calls Tryz.prog 38 #[bp s, .int .i64 p] w fun e w' => SRead S p w.heap.size e w' ∧ Same w w' := by
  refine opq fun R HR => ?_
  have M0 := Lib.hid (show Same w (w.alloc (.cells #[.int .i64 0, .slice none 0 0] 75)) from (Mod.refl _ _).alloc _)
  have X0 := Lib.hid (Blk.new w #[.int .i64 0, .slice none 0 0] 75)
  have T := Lib.hid t
  have HD := Lib.hid hd
  unfold SRead at HR
  have hl := hd.len
  clear t hd
  have HHas := Lib.hid (fun w' (M : Same w w') => shas_any (T.out.same M) (HD.out.same M) p)
  by_cases hin : 1 ≤ p ∧ p < ((min (S.length / 16) 512 : Nat) : Int)
  · simp only [if_pos hin] at HR
    obtain ⟨q, rfl⟩ : ∃ q : Nat, p = (q : Int) := ⟨p.toNat, by omega⟩
    rw [Int.toNat_natCast] at HR
    have hdec : decide (1 ≤ (q : Int) ∧ (q : Int) < ((min (S.length / 16) 512 : Nat) : Int)) = true := decide_eq_true hin
    rw [hdec] at HHas
    have hq1 : q < 512 ∧ 16 * q + 16 ≤ S.length := by omega
    clear hin hdec
    go_enter Tryz.func38, Tryz.ntmps38
    go_wp2_with fail
    generalize w.alloc _ = W0 at *
    refine (HHas.out W0 M0.out).mono ?_
    rintro e w1 ⟨rfl, rfl⟩
    have hloo := look_empty w1 fb 0 (T.out.same M0.out).fresh (q : Int) (by omega)
    have e8 := (T.out.same M0.out).blk.at_ (i := 8) _ rfl
    have e0 := (T.out.same M0.out).blk.at_ (i := 0) _ rfl
    have hmul : IntKind.i64.wrap ((q : Int) * 16) = ((16 * q : Nat) : Int) := by rw [IntWalk.i64_in _ (by omega)]; omega
    have M1 := Lib.hid (M0.out.alloc (.cells #[.int .i64 0, .slice none 0 0] 75))
    have X1 := Lib.hid (X0.out.alloc (.cells #[.int .i64 0, .slice none 0 0] 75))
    clear HHas
    have e0c := ((T.out.same M1.out).blk.at_ (i := 0) _ rfl)
    have HRd := Lib.hid (read_any (HD.out.same M1.out) (fun s hs => by rw [hS s hs]; exact Nat.le_refl _) (16 * q) 16 (by omega) (by omega) (by omega))
    rw [show joinS ((S.drop (16 * q)).take 16) = pageS S q from rfl] at HRd
    have h256 : (pageS S q).length = 256 := by
      unfold pageS
      rw [joinS_eq _ (fun s hs => hS s (List.mem_of_mem_drop (List.mem_of_mem_take hs))), List.length_take, List.length_drop]; omega
    have HLr := Lib.hid (fun w => lread_any (pageS S q) h256 w)
    unfold strV at HRd HLr
    clear X0 M0
    go_wp2_with fail
    refine HRd.out.mono ?_
    rintro e w5 ⟨rfl, M⟩
    have M5 := Lib.hid (M1.out.same M)
    have X5 := Lib.hid (X1.out.mod M (fun q => q))
    clear M M1 X1 HRd hloo e8 e0 e0c
    go_wp2_with fail
    refine (HLr.out w5).mono ?_
    rintro e w6 ⟨hlr, M⟩
    obtain ⟨lv, a, n, c, er, rfl, hlr2⟩ := leafR_shape hlr
    have L6 := Lib.hid (leafR_mono (hlr2 w6 (Mod.refl _ _)) M5.out.size)
    have M6 := Lib.hid (M5.out.same M)
    have X6 := Lib.hid (X5.out.mod M (fun q => q))
    have c0 := X6.out.at_ (i := 0) _ rfl
    have c1 := X6.out.at_ (i := 1) _ rfl
    have f0 := X6.out.free 0
    have f1 := X6.out.free 1
    have Y := Lib.hid (two_set X6.out (.int .i64 lv) (.slice a n c))
    have N := Lib.hid (Same.of_below ((Same.below M6.out).trans (modR_below (two_mod w6 w.heap.size (.int .i64 lv) (.slice a n c)) M6.out.size (Nat.le_refl _))))
    have L7 := Lib.hid (leafR_mod L6.out (two_mod w6 w.heap.size (.int .i64 lv) (.slice a n c)) (Nat.le_refl _))
    clear hlr hlr2 M M5 X5 L6 M6 X6 HLr
    go_wp2_with fail
    generalize World.setCell _ _ _ = w20 at *
    have b0 := Y.out.at_ (i := 0) _ rfl
    have b1 := Y.out.at_ (i := 1) _ rfl
    exact bodyPost_ret (v := .tuple #[.agg #[.int .i64 lv, .slice a n c], .int .i64 er]) (by simp [results, Tryz.results38, go_sem, b0, b1]) rfl (HR.out _ _ ⟨L7.out, N.out⟩)
  · simp only [if_neg hin] at HR
    rw [decide_eq_false hin] at HHas
    go_enter Tryz.func38, Tryz.ntmps38
    go_wp2_with fail
    generalize w.alloc _ = W0 at *
    refine (HHas.out W0 M0.out).mono ?_
    rintro e w1 ⟨rfl, rfl⟩
    have c0 := X0.out.at_ (i := 0) _ rfl
    have c1 := X0.out.at_ (i := 1) _ rfl
    have f0 := X0.out.free 0
    have f1 := X0.out.free 1
    have Y := Lib.hid (two_set X0.out (.int .i64 0) (.slice none 0 0))
    have N := Lib.hid (Same.of_below ((Same.below M0.out).trans (modR_below (two_mod w1 w.heap.size (.int .i64 0) (.slice none 0 0)) M0.out.size (Nat.le_refl _))))
    clear X0 M0 HHas
    go_wp2_with fail
    generalize World.setCell _ _ _ = w20 at *
    have b0 := Y.out.at_ (i := 0) _ rfl
    have b1 := Y.out.at_ (i := 1) _ rfl
    exact bodyPost_ret (v := .tuple #[.agg #[.int .i64 0, .slice none 0 0], .int .i64 9]) (by simp [results, Tryz.results38, go_sem, b0, b1]) rfl (HR.out _ _ ⟨rfl, N.out⟩)
end Go.Proofs.YtjkndfenniongaaGreatDoor
set_option maxRecDepth 100000
/- A tree's nodes are read. -/
namespace Go.Proofs.YtjkndfenniongaaGreatDoor
open Go Go.RowKit
/-- A node of a tree, as it is read: an error's number, and the node. -/
def nodeE (S : List (List UInt8)) (p lvl : Int) : Int × Option (Int × List (Int × Int)) :=
  if 1 ≤ p ∧ p < ((min (S.length / 16) 512 : Nat) : Int) then
    match leafP (pageS S p.toNat) with
    | none => (3, none)
    | some (lv, L) => if L.length = 0 ∨ (0 ≤ lvl ∧ lv ≠ lvl) then (3, none) else (0, some (lv, L))
  else (9, none)
def TRead (S : List (List UInt8)) (p lvl : Int) (B : Nat) (e : Ending) (w' : World) : Prop := match nodeE S p lvl with
  | (er, none) => e = .returned (.tuple #[.agg #[.int .i64 0, .slice none 0 0], .int .i64 er])
  | (_, some (lv, L)) => ∃ a c, e = .returned (.tuple #[.agg #[.int .i64 lv, .slice a L.length c], .int .i64 0]) ∧ Prs w' a L ∧ ∀ b o, a = some ⟨b, o, none⟩ → B < b
theorem leafP_good {l : List UInt8} {lv : Int} {L : List (Int × Int)} (h : leafP l = some (lv, L)) : goodL lv L = true := by
  unfold leafP at h
  split at h
  · cases h
  · split at h
    · rename_i hq
      cases h
      unfold lfOk at hq
      simp only [Bool.and_eq_true] at hq
      exact hq.2
    · cases h
theorem good_len {lv : Int} {L : List (Int × Int)} (h : goodL lv L = true) : L.length ≤ 15 ∧ 0 ≤ lv ∧ lv < 8 := by
  unfold goodL at h
  simp only [Bool.and_eq_true, decide_eq_true_eq] at h
  omega
set_option maxHeartbeats 8000000 in
theorem tread_any {B B2 : Nat} {w : World} {s d kb fb m lb : Nat} {h : Hd} {at_ u : Int} {S : List (List UInt8)} (t : Sto B w s d kb fb h at_) (hd : Dev B2 w d m lb u S (.map [])) (hS : ∀ s ∈ S, s.length = 16) (p : Int) (hp : -9223372036854775808 ≤ p ∧ p ≤ 9223372036854775807) (lvl : Int) :
    Calls Tryz.prog 79 #[.iface 42 (bp s), .int .i64 p, .int .i64 lvl] w fun e w' => TRead S p lvl w.heap.size e w' ∧ Same w w' := by
  refine opq fun R HR => ?_
  have M0 := Lib.hid (show Same w (w.alloc (.cells #[.int .i64 0, .slice none 0 0] 75)) from (Mod.refl _ _).alloc _)
  have X0 := Lib.hid (Blk.new w #[.int .i64 0, .slice none 0 0] 75)
  have HSR := Lib.hid (sread_any (t.same M0.out) (hd.same M0.out) hS p hp)
  unfold TRead nodeE at HR
  unfold SRead at HSR
  clear t hd
  have hsz0 : w.heap.size < (w.alloc (.cells #[.int .i64 0, .slice none 0 0] 75)).heap.size := by simp
  go_enter Tryz.func79, Tryz.ntmps79
  go_wp2_with fail
  generalize w.alloc _ = W0 at *
  refine HSR.out.mono ?_
  rintro e w1 ⟨hsr, M⟩
  have M1 := Lib.hid (M0.out.same M)
  have X1 := Lib.hid (X0.out.mod M (fun q => q))
  have hsz1 : w.heap.size < w1.heap.size := X1.out.lt
  clear M M0 X0 HSR
  have key : (∃ er : Int, e = .returned (.tuple #[.agg #[.int .i64 0, .slice none 0 0], .int .i64 er]) ∧ ¬ er = 0 ∧ (∀ e' w', e' = .returned (.tuple #[.agg #[.int .i64 0, .slice none 0 0], .int .i64 er]) ∧ Same w w' → R e' w')) ∨
      (∃ lv L a c, e = .returned (.tuple #[.agg #[.int .i64 lv, .slice a L.length c], .int .i64 0]) ∧ Prs w1 a L ∧ (∀ b o, a = some ⟨b, o, none⟩ → w.heap.size < b) ∧ goodL lv L = true ∧
        (if L.length = 0 ∨ (0 ≤ lvl ∧ lv ≠ lvl) then (∀ e' w', e' = .returned (.tuple #[.agg #[.int .i64 0, .slice none 0 0], .int .i64 3]) ∧ Same w w' → R e' w') else (∀ e' w', (∃ a c, e' = .returned (.tuple #[.agg #[.int .i64 lv, .slice a L.length c], .int .i64 0]) ∧ Prs w' a L ∧ ∀ b o, a = some ⟨b, o, none⟩ → w.heap.size < b) ∧ Same w w' → R e' w'))) := by
    have hr := HR.out
    by_cases hin : 1 ≤ p ∧ p < ((min (S.length / 16) 512 : Nat) : Int)
    · simp only [if_pos hin] at hsr hr
      unfold LeafR at hsr
      cases hl : leafP (pageS S p.toNat) with
      | none =>
        rw [hl] at hsr
        simp only [hl] at hr
        dsimp only at hsr
        exact .inl ⟨3, hsr, by decide, hr⟩
      | some q =>
        obtain ⟨lv, L⟩ := q
        rw [hl] at hsr
        simp only [hl] at hr
        dsimp only at hsr
        obtain ⟨a, c, he, hP, hb⟩ := hsr
        refine .inr ⟨lv, L, a, c, he, hP, fun b o q => by have := hb b o q; omega, leafP_good hl, ?_⟩
        by_cases hc : L.length = 0 ∨ (0 ≤ lvl ∧ lv ≠ lvl)
        · rw [if_pos hc]
          simp only [if_pos hc] at hr
          exact hr
        · rw [if_neg hc]
          simp only [if_neg hc] at hr
          exact hr
    · simp only [if_neg hin] at hsr hr
      exact .inl ⟨9, hsr, by decide, hr⟩
  clear hsr HR
  rcases key with ⟨er, rfl, hne, hR⟩ | ⟨lv, L, a, c, rfl, hP, hb, hg, hR⟩
  · have HR := Lib.hid hR
    clear hR
    have hnb : (er == 0) = false := beq_eq_false_iff_ne.2 hne
    have c0 := X1.out.at_ (i := 0) _ rfl
    have c1 := X1.out.at_ (i := 1) _ rfl
    have f0 := X1.out.free 0
    have f1 := X1.out.free 1
    have Y := Lib.hid ((two_set X1.out (.int .i64 0) (.slice none 0 0)).alloc (.cells #[.int .i64 0, .slice none 0 0] 75))
    have N := Lib.hid ((Same.of_below ((Same.below M1.out).trans (modR_below (two_mod _ w.heap.size (.int .i64 0) (.slice none 0 0)) M1.out.size (Nat.le_refl _)))).alloc (.cells #[.int .i64 0, .slice none 0 0] 75))
    clear M1 X1
    go_wp2_with fail
    generalize World.alloc _ _ = w20 at *
    have b0 := Y.out.at_ (i := 0) _ rfl
    have b1 := Y.out.at_ (i := 1) _ rfl
    exact bodyPost_ret (v := .tuple #[.agg #[.int .i64 0, .slice none 0 0], .int .i64 er]) (by simp [results, Tryz.results79, go_sem, b0, b1]) rfl (HR.out _ _ ⟨rfl, N.out⟩)
  · have HB := Lib.hid hb
    have hlen := (good_len hg).1
    have M2 := Lib.hid (M1.out.alloc (.cells #[.int .i64 lv, .slice a L.length c] 75))
    have X2 := Lib.hid (X1.out.alloc (.cells #[.int .i64 lv, .slice a L.length c] 75))
    have Y2 := Lib.hid (Blk.new w1 #[.int .i64 lv, .slice a L.length c] 75)
    have P2 := Lib.hid (hP.same ((Mod.refl (fun _ => False) w1).alloc (.cells #[.int .i64 lv, .slice a L.length c] 75)))
    have HG := Lib.hid (lgood_any lv a c L (w1.alloc (.cells #[.int .i64 lv, .slice a L.length c] 75)) (by omega) P2.out)
    rw [hg] at HG
    obtain ⟨n, hn⟩ : ∃ n, L.length = n := ⟨_, rfl⟩
    rw [hn] at HG hR M2 X2 Y2 P2 hlen ⊢
    clear hP hb hg hn M1 X1
    go_wp2_with fail
    generalize w1.alloc _ = w2 at *
    refine HG.out.mono ?_
    rintro e w3 ⟨rfl, M⟩
    have M3 := Lib.hid (M2.out.same M)
    have X3 := Lib.hid (X2.out.mod M (fun q => q))
    have Y3 := Lib.hid (Y2.out.mod M (fun q => q))
    have P3 := Lib.hid (P2.out.same M)
    have y1 := Y3.out.at_ (i := 1) _ rfl
    have y0 := Y3.out.at_ (i := 0) _ rfl
    have hw13 : w1.heap.size ≤ w3.heap.size := by have := Y3.out.lt; omega
    clear M M2 X2 Y2 P2 HG
    have hC : True := trivial
    by_cases hL : n = 0
    · have hnb : ((n : Int) == 0) = true := by simp [hL]
      rw [if_pos (.inl hL)] at hR
      have HR := Lib.hid hR
      clear hR
      have c0 := X3.out.at_ (i := 0) _ rfl
      have c1 := X3.out.at_ (i := 1) _ rfl
      have f0 := X3.out.free 0
      have f1 := X3.out.free 1
      have Y := Lib.hid (two_set X3.out (.int .i64 0) (.slice none 0 0))
      have N := Lib.hid (Same.of_below ((Same.below M3.out).trans (modR_below (two_mod _ w.heap.size (.int .i64 0) (.slice none 0 0)) M3.out.size (Nat.le_refl _))))
      clear M3 X3 Y3 P3 hC
      go_wp2_with fail
      generalize World.setCell _ _ _ = w20 at *
      have b0 := Y.out.at_ (i := 0) _ rfl
      have b1 := Y.out.at_ (i := 1) _ rfl
      exact bodyPost_ret (v := .tuple #[.agg #[.int .i64 0, .slice none 0 0], .int .i64 3]) (by simp [results, Tryz.results79, go_sem, b0, b1]) rfl (HR.out _ _ ⟨rfl, N.out⟩)
    · have hnb : ((n : Int) == 0) = false := beq_eq_false_iff_ne.2 (by omega)
      by_cases hl0 : 0 ≤ lvl
      · by_cases hq : lv = lvl
        · subst hq
          have hqb : (lv != lv) = false := by simp
          rw [if_neg (fun q => q.elim hL (fun q => q.2 rfl))] at hR
          have HR := Lib.hid hR
          clear hR
          have c0 := X3.out.at_ (i := 0) _ rfl
          have c1 := X3.out.at_ (i := 1) _ rfl
          have f0 := X3.out.free 0
          have f1 := X3.out.free 1
          have Y := Lib.hid (two_set X3.out (.int .i64 lv) (.slice a n c))
          have N := Lib.hid (Same.of_below ((Same.below M3.out).trans (modR_below (two_mod _ w.heap.size (.int .i64 lv) (.slice a n c)) M3.out.size (Nat.le_refl _))))
          have PF := Lib.hid (prs_mod P3.out (two_mod w3 w.heap.size (.int .i64 lv) (.slice a n c)) HB.out)
          have y0 := Y3.out.at_ (i := 0) _ rfl
          have y1 := Y3.out.at_ (i := 1) _ rfl
          clear M3 X3 Y3 P3 hC
          go_wp2_with fail
          generalize World.setCell _ _ _ = w20 at *
          have b0 := Y.out.at_ (i := 0) _ rfl
          have b1 := Y.out.at_ (i := 1) _ rfl
          exact bodyPost_ret (v := .tuple #[.agg #[.int .i64 lv, .slice a n c], .int .i64 0]) (by simp [results, Tryz.results79, go_sem, b0, b1]) rfl (HR.out _ _ ⟨⟨a, c, rfl, PF.out, HB.out⟩, N.out⟩)
        · have hqb : (lv != lvl) = true := by simp [hq]
          have hqb2 : (lv == lvl) = false := beq_eq_false_iff_ne.2 hq
          rw [if_pos (.inr ⟨hl0, hq⟩)] at hR
          have HR := Lib.hid hR
          clear hR
          have c0 := X3.out.at_ (i := 0) _ rfl
          have c1 := X3.out.at_ (i := 1) _ rfl
          have f0 := X3.out.free 0
          have f1 := X3.out.free 1
          have Y := Lib.hid (two_set X3.out (.int .i64 0) (.slice none 0 0))
          have N := Lib.hid (Same.of_below ((Same.below M3.out).trans (modR_below (two_mod _ w.heap.size (.int .i64 0) (.slice none 0 0)) M3.out.size (Nat.le_refl _))))
          clear M3 X3 Y3 P3 hC
          go_wp2_with fail
          generalize World.setCell _ _ _ = w20 at *
          have b0 := Y.out.at_ (i := 0) _ rfl
          have b1 := Y.out.at_ (i := 1) _ rfl
          exact bodyPost_ret (v := .tuple #[.agg #[.int .i64 0, .slice none 0 0], .int .i64 3]) (by simp [results, Tryz.results79, go_sem, b0, b1]) rfl (HR.out _ _ ⟨rfl, N.out⟩)
      · have hlb : decide (lvl ≥ 0) = false := decide_eq_false (by omega)
        have hlb2 : decide (0 ≤ lvl) = false := decide_eq_false hl0
        rw [if_neg (fun q => q.elim hL (fun q => hl0 q.1))] at hR
        have HR := Lib.hid hR
        clear hR
        have c0 := X3.out.at_ (i := 0) _ rfl
        have c1 := X3.out.at_ (i := 1) _ rfl
        have f0 := X3.out.free 0
        have f1 := X3.out.free 1
        have Y := Lib.hid (two_set X3.out (.int .i64 lv) (.slice a n c))
        have N := Lib.hid (Same.of_below ((Same.below M3.out).trans (modR_below (two_mod _ w.heap.size (.int .i64 lv) (.slice a n c)) M3.out.size (Nat.le_refl _))))
        have PF := Lib.hid (prs_mod P3.out (two_mod w3 w.heap.size (.int .i64 lv) (.slice a n c)) HB.out)
        have y0 := Y3.out.at_ (i := 0) _ rfl
        have y1 := Y3.out.at_ (i := 1) _ rfl
        clear M3 X3 Y3 P3 hC
        go_wp2_with fail
        generalize World.setCell _ _ _ = w20 at *
        have b0 := Y.out.at_ (i := 0) _ rfl
        have b1 := Y.out.at_ (i := 1) _ rfl
        exact bodyPost_ret (v := .tuple #[.agg #[.int .i64 lv, .slice a n c], .int .i64 0]) (by simp [results, Tryz.results79, go_sem, b0, b1]) rfl (HR.out _ _ ⟨⟨a, c, rfl, PF.out, HB.out⟩, N.out⟩)
end Go.Proofs.YtjkndfenniongaaGreatDoor
set_option maxRecDepth 100000
/- slices.Contains of a row of ints. -/
namespace Go.Proofs.YtjkndfenniongaaGreatDoor
open Go Go.RowKit
/-- Ints in memory. -/
def Ins (w : World) (a : Option Addr) (L : List Int) : Prop := 0 < L.length → ∃ b o, a = some ⟨b, o, none⟩ ∧ b < w.heap.size ∧ ∀ (i : Nat) (x : Int), L[i]? = some x → w.cell? ⟨b, o + i, none⟩ = some (.int .i64 x)
theorem Ins.same {w w' : World} {a : Option Addr} {L : List Int} (h : Ins w a L) (M : Same w w') : Ins w' a L := by
  intro hp
  obtain ⟨b, o, ha, hb, hc⟩ := h hp
  exact ⟨b, o, ha, Nat.lt_of_lt_of_le hb M.size, fun i x hx => (M.cell hb (fun q => q) _).trans (hc i x hx)⟩
theorem index_any (a : Option Addr) (c : Nat) (L : List Int) (x : Int) (w : World) (hl : L.length ≤ 1000000) (hI : Ins w a L) : Calls Tryz.prog 92 #[.slice a L.length c, .int .i64 x] w fun e w' => (∃ i : Int, e = .returned (.int .i64 i) ∧ decide (i ≥ 0) = L.contains x) ∧ w' = w := by
  refine opq fun R HR => ?_
  have HI := Lib.hid hI
  clear hI
  obtain ⟨n, hn⟩ : ∃ n, L.length = n := ⟨_, rfl⟩
  rw [hn] at hl ⊢
  have HN := Lib.hid hn
  clear hn
  go_enter Tryz.func92, Tryz.ntmps92
  go_wp2_with fail
  go_loopw [8, 5] (fun i _ wr => ∃ k : Nat, k ≤ n ∧ i = .int .i64 k ∧ x ∉ L.take k ∧ wr = w) (fun i _ _ => n - (intOf i).toNat)
  case atStart => exact ⟨0, by omega, rfl, by simp, rfl⟩
  case round =>
    obtain ⟨k, hk, rfl, hno, rfl⟩ := hrel
    have HNo := Lib.hid hno
    clear hno
    by_cases hlt : k < n
    · obtain ⟨b1, o1, rfl, hb1, hc1⟩ := HI.out (by rw [HN.out]; omega)
      obtain ⟨y, hy⟩ : ∃ y, L[k]? = some y := ⟨_, List.getElem?_eq_getElem (by rw [HN.out]; exact hlt)⟩
      have e0 := hc1 k y hy
      have HY := Lib.hid hy
      clear hc1 hy
      by_cases hxy : x = y
      · have hct : L.contains x = true := by rw [List.contains_iff_mem, hxy]; exact List.mem_of_getElem? HY.out
        rw [hct] at HR
        clear hct
        subst hxy
        go_wp2
        exact HR.out _ _ ⟨⟨(k : Int), rfl, by simp⟩, rfl⟩
      · have hb : (x == y) = false := beq_eq_false_iff_ne.2 hxy
        have HN2 := Lib.hid (show x ∉ L.take (k + 1) by
          rw [List.take_add_one, HY.out, List.mem_append]
          rintro (h | h)
          · exact HNo.out h
          · simp at h; exact hxy h)
        clear hxy
        go_wp2_with fail
        go_roundw
        case rel => exact ⟨k + 1, by omega, by go_num, HN2.out, trivial⟩
        case measure => simp [intOf]; omega
    · obtain rfl : k = n := by omega
      have hct : L.contains x = false := by
        have := HNo.out
        rw [List.take_of_length_le (by rw [HN.out]; exact Nat.le_refl _)] at this
        simpa using this
      rw [hct] at HR
      clear hct
      go_wp2
      exact HR.out _ _ ⟨⟨-1, rfl, by decide⟩, rfl⟩
theorem contains_any (a : Option Addr) (c : Nat) (L : List Int) (x : Int) (w : World) (hl : L.length ≤ 1000000) (hI : Ins w a L) : Calls Tryz.prog 81 #[.slice a L.length c, .int .i64 x] w fun e w' => e = .returned (.bool (L.contains x)) ∧ w' = w := by
  refine opq fun R HR => ?_
  have H1 := Lib.hid (index_any a c L x w hl hI)
  clear hI
  generalize L.length = n at *
  generalize hct : L.contains x = ct at *
  clear hct
  go_enter Tryz.func81, Tryz.ntmps81
  go_wp2_with fail
  refine H1.out.mono ?_
  rintro e w1 ⟨⟨i, rfl, hi⟩, rfl⟩
  go_wp2
  exact HR.out _ _ ⟨rfl, rfl⟩
end Go.Proofs.YtjkndfenniongaaGreatDoor
set_option maxRecDepth 100000
/- Whether a node lies within its bounds. -/
namespace Go.Proofs.YtjkndfenniongaaGreatDoor
open Go Go.RowKit
def rightP (fi : Int) (isSub : Bool) (hi : Int) (isEnd : Bool) (lv : Int) (x y : Int × Int) (n : Nat) : Bool := (if isSub = true then decide (x.1 = fi) else !(decide (0 < lv) && decide (n < 2))) && (!isEnd || decide (y.1 < hi))
set_option maxHeartbeats 8000000 in
theorem right_any (fi : Int) (isSub : Bool) (hi : Int) (isEnd : Bool) (lv : Int) (a : Option Addr) (c : Nat) (L : List (Int × Int)) (x y : Int × Int) (hx : L[0]? = some x) (hy : L[L.length - 1]? = some y) (w : World) (hl : L.length ≤ 1000000) (hP : Prs w a L) :
    Calls Tryz.prog 82 #[.agg #[.int .u64 fi, .bool isSub, .int .u64 hi, .bool isEnd], .agg #[.int .i64 lv, .slice a L.length c]] w fun e w' => e = .returned (.bool (rightP fi isSub hi isEnd lv x y L.length)) ∧ Same w w' := by
  refine opq fun R HR => ?_
  have hn0 : 0 < L.length := (List.getElem?_eq_some_iff.1 hx).1
  obtain ⟨b, o, rfl, hb, hc⟩ := hP hn0
  have M0 := Lib.hid (show Same w ((w.alloc (.cells #[.int .u64 fi, .bool isSub, .int .u64 hi, .bool isEnd] 140)).alloc (.cells #[.int .i64 lv, .slice (some ⟨b, o, none⟩) L.length c] 75)) from ((Mod.refl _ _).alloc _).alloc _)
  have X0 := Lib.hid ((Blk.new w #[.int .u64 fi, .bool isSub, .int .u64 hi, .bool isEnd] 140).alloc (.cells #[.int .i64 lv, .slice (some ⟨b, o, none⟩) L.length c] 75))
  have Y0 := Lib.hid (Blk.new (w.alloc (.cells #[.int .u64 fi, .bool isSub, .int .u64 hi, .bool isEnd] 140)) #[.int .i64 lv, .slice (some ⟨b, o, none⟩) L.length c] 75)
  have E0 := Lib.hid (hc 0 x hx)
  have E1 := Lib.hid (hc (L.length - 1) y hy)
  have hsz : (w.alloc (.cells #[.int .u64 fi, .bool isSub, .int .u64 hi, .bool isEnd] 140)).heap.size = w.heap.size + 1 := by simp
  rw [hsz] at Y0
  clear hP hc hx hy hsz
  generalize L.length = n at *
  unfold rightP at HR
  have hw1 : IntKind.i64.wrap ((n : Int) - 1) = ((n - 1 : Nat) : Int) := by rw [IntWalk.i64_in _ (by omega)]; omega
  go_enter Tryz.func82, Tryz.ntmps82
  go_wp2_with fail
  generalize (w.alloc _).alloc _ = W at *
  have p0 := X0.out.at_ (i := 0) _ rfl
  have p1 := X0.out.at_ (i := 1) _ rfl
  have p2 := X0.out.at_ (i := 2) _ rfl
  have p3 := X0.out.at_ (i := 3) _ rfl
  have q0 := Y0.out.at_ (i := 0) _ rfl
  have q1 := Y0.out.at_ (i := 1) _ rfl
  have r0 := (M0.out.cell hb (fun q => q) _).trans E0.out.1
  have r1 := (M0.out.cell hb (fun q => q) _).trans E1.out.1
  rw [Nat.zero_mul, Nat.add_zero] at r0
  clear X0 Y0 E0 E1
  cases isSub with
  | true =>
    by_cases h1 : x.1 = fi
    · have g1 : (x.1 != fi) = false := by simp [h1]
      go_big_quiet (fail)
      cases isEnd with
      | false =>
        go_wp2_with fail
        try go_big_quiet (fail)
        go_wp2
        exact HR.out _ _ ⟨by first | rfl | simp [*], by first | exact M0.out | exact M0.out.drewN _ | exact (M0.out.drewN _).drewN _⟩
      | true =>
        by_cases h9 : y.1 < hi
        · go_wp2_with fail
          go_big_quiet (fail)
          go_wp2
          exact HR.out _ _ ⟨by first | rfl | simp [*], by first | exact M0.out | exact M0.out.drewN _ | exact (M0.out.drewN _).drewN _⟩
        · go_wp2_with fail
          go_big_quiet (fail)
          go_wp2
          exact HR.out _ _ ⟨by first | rfl | simp [*], by first | exact M0.out | exact M0.out.drewN _ | exact (M0.out.drewN _).drewN _⟩
    · have g1 : (x.1 != fi) = true := by simp [h1]
      go_big_quiet (fail)
      go_wp2
      exact HR.out _ _ ⟨by first | rfl | simp [*], by first | exact M0.out | exact M0.out.drewN _ | exact (M0.out.drewN _).drewN _⟩
  | false =>
    by_cases h2 : 0 < lv
    · by_cases h3 : n < 2
      · go_big_quiet (fail)
        go_wp2
        exact HR.out _ _ ⟨by first | rfl | simp [*], by first | exact M0.out | exact M0.out.drewN _ | exact (M0.out.drewN _).drewN _⟩
      · go_big_quiet (fail)
        cases isEnd with
        | false =>
          go_wp2_with fail
          try go_big_quiet (fail)
          go_wp2
          exact HR.out _ _ ⟨by first | rfl | simp [*], by first | exact M0.out | exact M0.out.drewN _ | exact (M0.out.drewN _).drewN _⟩
        | true =>
          by_cases h9 : y.1 < hi
          · go_wp2_with fail
            go_big_quiet (fail)
            go_wp2
            exact HR.out _ _ ⟨by first | rfl | simp [*], by first | exact M0.out | exact M0.out.drewN _ | exact (M0.out.drewN _).drewN _⟩
          · go_wp2_with fail
            go_big_quiet (fail)
            go_wp2
            exact HR.out _ _ ⟨by first | rfl | simp [*], by first | exact M0.out | exact M0.out.drewN _ | exact (M0.out.drewN _).drewN _⟩
    · go_big_quiet (fail)
      cases isEnd with
      | false =>
        go_wp2_with fail
        try go_big_quiet (fail)
        go_wp2
        exact HR.out _ _ ⟨by first | rfl | simp [*], by first | exact M0.out | exact M0.out.drewN _ | exact (M0.out.drewN _).drewN _⟩
      | true =>
        by_cases h9 : y.1 < hi
        · go_wp2_with fail
          go_big_quiet (fail)
          go_wp2
          exact HR.out _ _ ⟨by first | rfl | simp [*], by first | exact M0.out | exact M0.out.drewN _ | exact (M0.out.drewN _).drewN _⟩
        · go_wp2_with fail
          go_big_quiet (fail)
          go_wp2
          exact HR.out _ _ ⟨by first | rfl | simp [*], by first | exact M0.out | exact M0.out.drewN _ | exact (M0.out.drewN _).drewN _⟩
end Go.Proofs.YtjkndfenniongaaGreatDoor
set_option maxRecDepth 100000
/- A walk through a tree, in plain words; it fails. -/
namespace Go.Proofs.YtjkndfenniongaaGreatDoor
open Go Go.RowKit
abbrev WSt := List Int × List (Int × Int)
/-- The pairs of a node, each with its bounds. -/
def kidsW (f : Int × Int → Int → Bool → WSt → Option WSt) (hi : Int) (isEnd : Bool) : List (Int × Int) → WSt → Option WSt
  | [], st => some st
  | [x], st => f x hi isEnd st
  | x :: y :: r, st => (f x y.1 true st).bind (kidsW f hi isEnd (y :: r))
/-- A node, and all below; none: it isn't sound. -/
def nodeW (S : List (List UInt8)) : Nat → Int → Int → Int → Bool → Int → Bool → WSt → Option WSt
  | 0, _, _, _, _, _, _, _ => none
  | n + 1, p, lvl, fi, isSub, hi, isEnd, st => match (nodeE S p lvl).2 with
    | none => none
    | some (lv, L) => if st.1.contains p || !rightP fi isSub hi isEnd lv (L.getD 0 (0, 0)) (L.getD (L.length - 1) (0, 0)) L.length then none
      else if lv = 0 then some (st.1 ++ [p], st.2 ++ L)
      else kidsW (fun x h e st => nodeW S n x.2 (lv - 1) x.1 true h e st) hi isEnd L (st.1 ++ [p], st.2)
theorem fail_any (k : Nat) (v0 v1 : Value) (er : Int) (w : World) (h : Blk w k #[v0, v1, .int .i64 0]) : Calls Tryz.prog 80 #[bp k, .int .i64 er] w fun e w' => e = .returned (.tuple #[]) ∧ Blk w' k #[v0, v1, .int .i64 er] ∧ Mod (fun i => i = k) w w' := by
  refine opq fun R HR => ?_
  have e2 := h.at_ (i := 2) _ rfl
  have f2 := h.free 2
  have B := Lib.hid (show Blk (w.setCell ⟨k, 2, none⟩ (.int .i64 er)) k #[v0, v1, .int .i64 er] from h.set 2 (.int .i64 er))
  have M := Lib.hid ((Mod.refl (fun i => i = k) w).setCell (p := ⟨k, 2, none⟩) (fun _ => rfl) (.int .i64 er))
  clear h
  go_enter Tryz.func80, Tryz.ntmps80
  go_wp2
  go_end0
  exact HR.out _ _ ⟨rfl, B.out, M.out⟩
end Go.Proofs.YtjkndfenniongaaGreatDoor
