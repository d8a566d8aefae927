import Derived.Test.YtjkndfenniongaaGreatDoorAtH
import Derived.Deep.RegionLaw
set_option linter.unusedSimpArgs false
set_option linter.unusedVariables false
set_option maxRecDepth 100000
/- A store is opened. -/
namespace Go.Proofs.YtjkndfenniongaaGreatDoor
open Go Go.RowKit
def openS (S : List (List UInt8)) : Option (Hd × Nat) := if min (S.length / 16) 512 ≤ 1 then none else newest (S.getD 0 []) (S.getD 1 [])
def OpenP (w w' : World) (d : Nat) (S : List (List UInt8)) (e : Ending) : Prop := match openS S with
  | none => e = .returned (.tuple #[.pointer none, .int .i64 3])
  | some (h, i) => ∃ s kb fb, e = .returned (.tuple #[bp s, .int .i64 0]) ∧ Sto w.heap.size w' s d kb fb h (i : Int)
theorem two_secs {S : List (List UInt8)} (h : 2 ≤ S.length) : ∃ a b, S.getD 0 [] = a ∧ S.getD 1 [] = b ∧ a ∈ S ∧ b ∈ S ∧ (S.drop 0).take 2 = [a, b] := by
  match S, h with
  | a :: b :: S, _ => exact ⟨a, b, rfl, rfl, by simp, by simp, by simp⟩
set_option maxHeartbeats 4000000 in
theorem open_store {B : Nat} {w : World} {d m lb : Nat} {u : Int} {S : List (List UInt8)} (h : Dev B w d m lb u S (.map [])) (hS : ∀ s ∈ S, s.length = 16) :
    Calls Tryz.prog 11 #[bp d] w fun e w' => OpenP w w' d S e ∧ Same w w' := by
  refine opq fun R HR => ?_
  unfold OpenP openS at HR
  have HP := Lib.hid (pages_any h)
  have HD := Lib.hid h
  have hl := h.len
  obtain ⟨np, hnp⟩ : ∃ n, min (S.length / 16) 512 = n := ⟨_, rfl⟩
  rw [hnp] at HR HP
  by_cases h1 : np ≤ 1
  · rw [if_pos h1] at HR
    dsimp only at HR
    go_enter Tryz.func11, Tryz.ntmps11
    go_wp2_with fail
    refine HP.out.mono ?_
    rintro e w1 ⟨rfl, rfl⟩
    go_wp2
    exact HR.out _ _ ⟨rfl, Mod.refl _ _⟩
  · rw [if_neg h1] at HR
    obtain ⟨a, b, ha, hb, hma, hmb, htk⟩ := two_secs (S := S) (by omega)
    have ha16 := hS a hma
    have hb16 := hS b hmb
    have HRd := Lib.hid (read_any h (fun s hs => by rw [hS s hs]; exact Nat.le_refl _) 0 2 (by omega) (by omega) (by omega))
    rw [htk] at HRd
    rw [show joinS [a, b] = a ++ b by simp [joinS]] at HRd
    rw [ha, hb] at HR
    have HN := Lib.hid (fun w => newest_any a b ha16 hb16 w)
    have hx1 : (⟨(a ++ b).toArray⟩ : ByteArray).extract 0 16 = ⟨a.toArray⟩ := (take_bytes ⟨(a ++ b).toArray⟩ 16).trans (by
      rw [show (⟨(a ++ b).toArray⟩ : ByteArray).data.toList = a ++ b from rfl, ← ha16, List.take_left])
    have hx2 : (⟨(a ++ b).toArray⟩ : ByteArray).extract 16 (⟨(a ++ b).toArray⟩ : ByteArray).size = ⟨b.toArray⟩ := (drop_bytes ⟨(a ++ b).toArray⟩ 16).trans (by
      rw [show (⟨(a ++ b).toArray⟩ : ByteArray).data.toList = a ++ b from rfl, ← ha16, List.drop_left])
    have hls : (⟨(a ++ b).toArray⟩ : ByteArray).size = 32 := by rw [bytes_size, List.length_append]; omega
    rw [hls] at hx2
    clear h hS htk hma hmb ha hb ha16 hb16 hnp
    unfold strV at HRd HN
    generalize hab : (⟨(a ++ b).toArray⟩ : ByteArray) = AB at *
    clear hab
    go_enter Tryz.func11, Tryz.ntmps11
    go_wp2_with fail
    refine HP.out.mono ?_
    rintro e w1 ⟨rfl, rfl⟩
    have hn1 : ¬ (np : Int) ≤ 1 := by omega
    clear HP
    go_wp2_with fail
    refine HRd.out.mono ?_
    rintro e w2 ⟨rfl, M⟩
    have K2 := Lib.hid M
    clear M HRd
    go_wp2_with fail
    have hw2 : w1.heap.size ≤ w2.heap.size := K2.out.size
    cases hnw : newest a b with
    | none =>
      rw [hnw] at HR HN
      dsimp only [zeroH, hdV, hdC] at HR HN
      go_region_law (go_simp; go_at_call 34; first | (refine (HN.out _).mono ?_; rintro e w3 ⟨rfl, M⟩; have K3 := Lib.hid (K2.out.drew.same M); clear M) | (refine (HN.out _).mono ?_; rintro e w3 ⟨rfl, M⟩; have K3 := Lib.hid ((K2.out.alloc (.cells #[.int .u64 0, .int .i64 0, .int .i64 0, .int .i64 0, .int .i64 0] 53)).drew.same M); have ZB := Lib.hid ((Blk.new w2 #[.int .u64 0, .int .i64 0, .int .i64 0, .int .i64 0, .int .i64 0] 53).drew.mod M (fun q => q)); have z0 := ZB.out.at_ (i := 0) _ rfl; have z1 := ZB.out.at_ (i := 1) _ rfl; have z2 := ZB.out.at_ (i := 2) _ rfl; have z3 := ZB.out.at_ (i := 3) _ rfl; have z4 := ZB.out.at_ (i := 4) _ rfl; have y0 := ZB.out.free 0; have y1 := ZB.out.free 1; have y2 := ZB.out.free 2; have y3 := ZB.out.free 3; have y4 := ZB.out.free 4; clear M))
      all_goals
        go_wp2
        first
        | exact HR.out _ _ ⟨rfl, K3.out.alloc _⟩
        | exact HR.out _ _ ⟨rfl, Same.of_below ((Same.below K3.out).trans (modR_below (five_mod _ w2.heap.size (.int .u64 0) (.int .i64 0) (.int .i64 0) (.int .i64 0) (.int .i64 0)) K3.out.size hw2))⟩
    | some p =>
      obtain ⟨hh, i⟩ := p
      rw [hnw] at HR HN
      obtain ⟨gen, root, s0, s1, ch⟩ := hh
      dsimp only [hdV, hdC] at HR HN
      have HMd := Lib.hid (fun w => made_any d ⟨gen, root, s0, s1, ch⟩ (i : Int) w)
      dsimp only [hdV, hdC] at HMd
      go_region_law (go_simp; go_at_call 34; first | (refine (HN.out _).mono ?_; rintro e w3 ⟨rfl, M⟩; have K3 := Lib.hid (K2.out.drew.same M); clear M) | (refine (HN.out _).mono ?_; rintro e w3 ⟨rfl, M⟩; have K3 := Lib.hid ((K2.out.alloc (.cells #[.int .u64 0, .int .i64 0, .int .i64 0, .int .i64 0, .int .i64 0] 53)).drew.same M); have ZB := Lib.hid ((Blk.new w2 #[.int .u64 0, .int .i64 0, .int .i64 0, .int .i64 0, .int .i64 0] 53).drew.mod M (fun q => q)); have z0 := ZB.out.at_ (i := 0) _ rfl; have z1 := ZB.out.at_ (i := 1) _ rfl; have z2 := ZB.out.at_ (i := 2) _ rfl; have z3 := ZB.out.at_ (i := 3) _ rfl; have z4 := ZB.out.at_ (i := 4) _ rfl; have y0 := ZB.out.free 0; have y1 := ZB.out.free 1; have y2 := ZB.out.free 2; have y3 := ZB.out.free 3; have y4 := ZB.out.free 4; clear M))
      all_goals
        first
        | (have T := Lib.hid (five_set ZB.out (.int .u64 gen) (.int .i64 root) (.int .i64 s0) (.int .i64 s1) (.int .i64 ch))
           have N := Lib.hid (Same.of_below ((Same.below K3.out).trans (modR_below (five_mod _ w2.heap.size (.int .u64 gen) (.int .i64 root) (.int .i64 s0) (.int .i64 s1) (.int .i64 ch)) K3.out.size hw2)))
           clear K3 ZB
           generalize World.setCell _ _ _ = w4 at *)
        | (have T := Lib.hid (Blk.new w3 #[.int .u64 gen, .int .i64 root, .int .i64 s0, .int .i64 s1, .int .i64 ch] 53)
           have N := Lib.hid (K3.out.alloc (.cells #[.int .u64 gen, .int .i64 root, .int .i64 s0, .int .i64 s1, .int .i64 ch] 53))
           clear K3
           generalize w3.alloc _ = w4 at *)
        have t0 := T.out.at_ (i := 0) _ rfl
        have t1 := T.out.at_ (i := 1) _ rfl
        have t2 := T.out.at_ (i := 2) _ rfl
        have t3 := T.out.at_ (i := 3) _ rfl
        have t4 := T.out.at_ (i := 4) _ rfl
        go_wp2_with fail
        refine (HMd.out w4).mono ?_
        rintro e w5 ⟨⟨s, kb, fb, rfl, hst⟩, M⟩
        have N5 := Lib.hid (N.out.same M)
        have ST := Lib.hid (⟨Nat.le_trans N.out.size hst.hs, hst.blk, hst.kept, hst.fresh⟩ : Sto w1.heap.size w5 s d kb fb ⟨gen, root, s0, s1, ch⟩ (i : Int))
        clear M hst T N t0 t1 t2 t3 t4
        go_wp2
        exact HR.out _ _ ⟨⟨s, kb, fb, rfl, ST.out⟩, N5.out⟩
end Go.Proofs.YtjkndfenniongaaGreatDoor
