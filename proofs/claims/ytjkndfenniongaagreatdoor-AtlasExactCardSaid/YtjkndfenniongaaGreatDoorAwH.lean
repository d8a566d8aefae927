import Derived.Test.YtjkndfenniongaaGreatDoorAwC
import Derived.Test.YtjkndfenniongaaGreatDoorAwB
set_option linter.unusedSimpArgs false
set_option linter.unusedVariables false
set_option maxRecDepth 100000
/- The two readings of a head are one. -/
namespace Go.Proofs.YtjkndfenniongaaGreatDoor
open Go Go.RowKit
theorem leV_inj : ∀ (a b : List UInt8), a.length = b.length → leV a = leV b → a = b
  | [], [], _, _ => rfl
  | x :: a, y :: b, hl, h => by
    simp only [leV] at h
    have h1 := x.toNat_lt
    have h2 := y.toNat_lt
    have h3 : x.toNat = y.toNat := by omega
    have h4 : leV a = leV b := by omega
    rw [leV_inj a b (by simpa using hl) h4, UInt8.toNat_inj.1 h3]
  | [], _ :: _, hl, _ => by simp at hl
  | _ :: _, [], hl, _ => by simp at hl
theorem leB_leV (l : List UInt8) (k : Nat) (hk : l.length = k) : leB (leV l) k = l := by
  subst hk
  apply leV_inj _ _ (leB_len _ _)
  have hb := leV_bd l
  rw [leV_leB _ hb.1, Int.emod_eq_of_lt hb.1 hb.2]
theorem cut_at (t : List UInt8) (k m : Nat) : (t.drop k).take m ++ t.drop (k + m) = t.drop k := by
  rw [← List.drop_drop, List.take_append_drop]
theorem body_parse (t : List UInt8) (ht : t.length = 12) (h : leV (t.take 1) = 84) : bodyB (parseH t) = t := by
  unfold bodyB parseH slotsB
  dsimp only
  rw [← h, leB_leV (t.take 1) 1 (by simp; omega), leB_leV ((t.drop 1).take 1) 1 (by simp; omega), leB_leV ((t.drop 2).take 2) 2 (by simp; omega), leB_leV ((t.drop 4).take 2) 2 (by simp; omega), leB_leV ((t.drop 6).take 4) 4 (by simp; omega), leB_leV ((t.drop 10).take 2) 2 (by simp; omega)]
  have e10 : (t.drop 10).take 2 = t.drop 10 := List.take_of_length_le (by simp; omega)
  have e6 := cut_at t 6 4
  have e4 := cut_at t 4 2
  have e2 := cut_at t 2 2
  have e1 := cut_at t 1 1
  have e0 := List.take_append_drop 1 t
  rw [e10]
  simp only [List.append_assoc]
  rw [e6, e4, e2, e1, e0]
theorem body_len (h : Hd) : (bodyB h).length = 12 := by
  unfold bodyB slotsB
  simp only [List.length_append, leB_len]
theorem parse_cut (l : List UInt8) (hl : l.length = 16) : parseH (l.take 12) = pD l := by
  unfold parseH pD
  simp only [List.drop_take, List.take_take]
  congr 1
  match l, hl with
  | x :: y :: r, _ => simp [leV]
theorem read_same (l : List UInt8) (hl : l.length = 16) : readHD l = readH l := by
  have ho : openL l = if sealL (l.take 12) = l then some (l.take 12) else none := by
    unfold openL
    rw [hl, if_neg (by omega)]
  unfold readHD readH
  rw [ho, ← parse_cut l hl]
  have ht : (l.take 12).length = 12 := by simp; omega
  by_cases hs : sealL (l.take 12) = l
  · rw [if_pos hs]
    dsimp only
    by_cases h84 : leV ((l.take 12).take 1) = 84
    · have hb := body_parse _ ht h84
      unfold headB
      rw [hb]
      by_cases hg : goodH (parseH (l.take 12)) = true
      · rw [if_pos ⟨hg, hs⟩, if_pos ⟨h84, hg⟩]
      · rw [if_neg (fun q => hg q.1), if_neg (fun q => hg q.2)]
    · rw [if_neg (fun q => ?_), if_neg (fun q => h84 q.1)]
      have h2 := q.2
      unfold headB at h2
      have h3 : bodyB (parseH (l.take 12)) = l.take 12 := by
        have := congrArg (List.take 12) h2
        unfold sealL at this
        rwa [List.take_left' (body_len _)] at this
      apply h84
      rw [← h3]
      unfold bodyB
      simp only [List.append_assoc]
      rw [List.take_left' (leB_len _ _)]
      decide
  · rw [if_neg hs]
    dsimp only
    rw [if_neg]
    rintro ⟨_, h2⟩
    unfold headB at h2
    have h3 : bodyB (parseH (l.take 12)) = l.take 12 := by
      have := congrArg (List.take 12) h2
      unfold sealL at this
      rwa [List.take_left' (body_len _)] at this
    rw [h3] at h2
    exact hs h2
def RNew (a b : List UInt8) (e : Ending) : Prop := match newest a b with
  | none => e = .returned (.tuple #[hdV zeroH, .int .i64 0, .bool false])
  | some (h, i) => e = .returned (.tuple #[hdV h, .int .i64 (i : Int), .bool true])
def okOf (o : Option Hd) : Bool := o.isSome
theorem rread6_shape (l : List UInt8) (hl : l.length = 16) (w : World) : Calls Tryz.prog 39 #[strV l] w fun e w' => e = .returned (.tuple #[hdV (hdOf (readH l)), .bool (okOf (readH l))]) ∧ Same w w' := by
  refine (rread6_any l hl w).mono ?_
  rintro e w' ⟨h, M⟩
  refine ⟨?_, M⟩
  unfold RHead at h
  rw [read_same l hl] at h
  cases hr : readH l with
  | none => rw [hr] at h; exact h
  | some x => rw [hr] at h; exact h
set_option maxHeartbeats 8000000 in
theorem rnewest_any (a b : List UInt8) (ha : a.length = 16) (hb : b.length = 16) (w : World) : Calls Tryz.prog 20 #[strV a, strV b] w fun e w' => RNew a b e ∧ Same w w' := by
  refine opq fun R HR => ?_
  have HA := Lib.hid (fun w => rread6_shape a ha w)
  have HB := Lib.hid (fun w => rread6_shape b hb w)
  unfold strV at *
  unfold RNew newest at HR
  have HRR := Lib.hid HR
  clear HR
  have M0 := Lib.hid (show Same w (w.alloc (.cells #[.int .u64 0, .int .i64 0, .int .i64 0, .int .i64 0, .int .i64 0] 53)) from (Mod.refl _ _).alloc _)
  have X0 := Lib.hid (Blk.new w #[.int .u64 0, .int .i64 0, .int .i64 0, .int .i64 0, .int .i64 0] 53)
  go_enter Tryz.func20, Tryz.ntmps20
  go_wp2_with fail
  generalize w.alloc _ = W at *
  refine (HA.out _).mono ?_
  rintro e w1 ⟨rfl, M⟩
  have M1 := Lib.hid (M0.out.same M)
  have X1 := Lib.hid (X0.out.mod M (fun q => q))
  clear M M0 X0 HA
  obtain ⟨xh, hxh⟩ : ∃ z, hdOf (readH a) = z := ⟨_, rfl⟩
  rw [hxh]
  obtain ⟨g1, r1, s1, t1, c1⟩ := xh
  have M2 := Lib.hid (M1.out.alloc (.cells #[.int .u64 g1, .int .i64 r1, .int .i64 s1, .int .i64 t1, .int .i64 c1] 53))
  have X2 := Lib.hid (X1.out.alloc (.cells #[.int .u64 g1, .int .i64 r1, .int .i64 s1, .int .i64 t1, .int .i64 c1] 53))
  have Y2 := Lib.hid (Blk.new w1 #[.int .u64 g1, .int .i64 r1, .int .i64 s1, .int .i64 t1, .int .i64 c1] 53)
  dsimp only [hdV, hdC]
  go_wp2_with fail
  generalize w1.alloc _ = W2 at *
  refine (HB.out _).mono ?_
  rintro e w3 ⟨rfl, M⟩
  have M3 := Lib.hid (M2.out.same M)
  have X3 := Lib.hid (X2.out.mod M (fun q => q))
  have Y3 := Lib.hid (Y2.out.mod M (fun q => q))
  clear M M1 X1 M2 X2 Y2 HB
  obtain ⟨yh, hyh⟩ : ∃ z, hdOf (readH b) = z := ⟨_, rfl⟩
  rw [hyh]
  obtain ⟨g2, r2, s2, t2, c2⟩ := yh
  have M4 := Lib.hid (M3.out.alloc (.cells #[.int .u64 g2, .int .i64 r2, .int .i64 s2, .int .i64 t2, .int .i64 c2] 53))
  have X4 := Lib.hid (X3.out.alloc (.cells #[.int .u64 g2, .int .i64 r2, .int .i64 s2, .int .i64 t2, .int .i64 c2] 53))
  have Y4 := Lib.hid (Y3.out.alloc (.cells #[.int .u64 g2, .int .i64 r2, .int .i64 s2, .int .i64 t2, .int .i64 c2] 53))
  have Z4 := Lib.hid (Blk.new w3 #[.int .u64 g2, .int .i64 r2, .int .i64 s2, .int .i64 t2, .int .i64 c2] 53)
  dsimp only [hdV, hdC]
  have x0 := X4.out.at_ (i := 0) _ rfl
  have x1 := X4.out.at_ (i := 1) _ rfl
  have x2 := X4.out.at_ (i := 2) _ rfl
  have x3 := X4.out.at_ (i := 3) _ rfl
  have x4 := X4.out.at_ (i := 4) _ rfl
  have p0 := X4.out.free 0
  have p1 := X4.out.free 1
  have p2 := X4.out.free 2
  have p3 := X4.out.free 3
  have p4 := X4.out.free 4
  have y0 := Y4.out.at_ (i := 0) _ rfl
  have y1 := Y4.out.at_ (i := 1) _ rfl
  have y2 := Y4.out.at_ (i := 2) _ rfl
  have y3 := Y4.out.at_ (i := 3) _ rfl
  have y4 := Y4.out.at_ (i := 4) _ rfl
  have z0 := Z4.out.at_ (i := 0) _ rfl
  have z1 := Z4.out.at_ (i := 1) _ rfl
  have z2 := Z4.out.at_ (i := 2) _ rfl
  have z3 := Z4.out.at_ (i := 3) _ rfl
  have z4 := Z4.out.at_ (i := 4) _ rfl
  have hlx := X4.out.lt
  have hly := Y4.out.lt
  have hlz := Z4.out.lt
  clear M3 X3 Y3
  have key : ∀ (xa xb : Option Hd), readH a = xa → readH b = xb → True := fun _ _ _ _ => trivial
  clear key
  cases hra : readH a with
  | none =>
    rw [hra] at hxh
    cases hxh
    have HR0 := HRR.out
    rw [hra] at HR0
    cases hrb : readH b with
    | none =>
      rw [hrb] at HR0 hyh
      dsimp only [hdV, hdC, zeroH] at HR0
      have HR := Lib.hid HR0
      clear HR0 HRR hra hrb
      dsimp only [okOf, Option.isSome]
      have YF := Lib.hid (five_set X4.out (.int .u64 0) (.int .i64 0) (.int .i64 0) (.int .i64 0) (.int .i64 0))
      have NF := Lib.hid (M4.out.then_ (five_mod _ w.heap.size (.int .u64 0) (.int .i64 0) (.int .i64 0) (.int .i64 0) (.int .i64 0)) (fun i hi q => by omega))
      go_wp2_with fail
      generalize World.setCell _ _ _ = wF at *
      have rr0 := YF.out.at_ (i := 0) _ rfl
      have rr1 := YF.out.at_ (i := 1) _ rfl
      have rr2 := YF.out.at_ (i := 2) _ rfl
      have rr3 := YF.out.at_ (i := 3) _ rfl
      have rr4 := YF.out.at_ (i := 4) _ rfl
      exact bodyPost_ret (v := .tuple #[.agg #[.int .u64 0, .int .i64 0, .int .i64 0, .int .i64 0, .int .i64 0], .int .i64 0, .bool false]) (by simp [results, Tryz.results20, go_sem, rr0, rr1, rr2, rr3, rr4]) rfl (HR.out _ _ ⟨rfl, NF.out⟩)
    | some y =>
      rw [hrb] at HR0 hyh
      cases hyh
      dsimp only [hdV, hdC, zeroH] at HR0
      have HR := Lib.hid HR0
      clear HR0 HRR hra hrb
      dsimp only [okOf, Option.isSome]
      have YF := Lib.hid (five_set X4.out (.int .u64 g2) (.int .i64 r2) (.int .i64 s2) (.int .i64 t2) (.int .i64 c2))
      have NF := Lib.hid (M4.out.then_ (five_mod _ w.heap.size (.int .u64 g2) (.int .i64 r2) (.int .i64 s2) (.int .i64 t2) (.int .i64 c2)) (fun i hi q => by omega))
      go_wp2_with fail
      generalize World.setCell _ _ _ = wF at *
      have rr0 := YF.out.at_ (i := 0) _ rfl
      have rr1 := YF.out.at_ (i := 1) _ rfl
      have rr2 := YF.out.at_ (i := 2) _ rfl
      have rr3 := YF.out.at_ (i := 3) _ rfl
      have rr4 := YF.out.at_ (i := 4) _ rfl
      exact bodyPost_ret (v := .tuple #[.agg #[.int .u64 g2, .int .i64 r2, .int .i64 s2, .int .i64 t2, .int .i64 c2], .int .i64 1, .bool true]) (by simp [results, Tryz.results20, go_sem, rr0, rr1, rr2, rr3, rr4]) rfl (HR.out _ _ ⟨rfl, NF.out⟩)
  | some x =>
    rw [hra] at hxh
    cases hxh
    have HR0 := HRR.out
    rw [hra] at HR0
    cases hrb : readH b with
    | none =>
      rw [hrb] at HR0 hyh
      dsimp only [hdV, hdC, zeroH] at HR0
      have HR := Lib.hid HR0
      clear HR0 HRR hra hrb
      dsimp only [okOf, Option.isSome]
      have YF := Lib.hid (five_set X4.out (.int .u64 g1) (.int .i64 r1) (.int .i64 s1) (.int .i64 t1) (.int .i64 c1))
      have NF := Lib.hid (M4.out.then_ (five_mod _ w.heap.size (.int .u64 g1) (.int .i64 r1) (.int .i64 s1) (.int .i64 t1) (.int .i64 c1)) (fun i hi q => by omega))
      go_wp2_with fail
      generalize World.setCell _ _ _ = wF at *
      have rr0 := YF.out.at_ (i := 0) _ rfl
      have rr1 := YF.out.at_ (i := 1) _ rfl
      have rr2 := YF.out.at_ (i := 2) _ rfl
      have rr3 := YF.out.at_ (i := 3) _ rfl
      have rr4 := YF.out.at_ (i := 4) _ rfl
      exact bodyPost_ret (v := .tuple #[.agg #[.int .u64 g1, .int .i64 r1, .int .i64 s1, .int .i64 t1, .int .i64 c1], .int .i64 0, .bool true]) (by simp [results, Tryz.results20, go_sem, rr0, rr1, rr2, rr3, rr4]) rfl (HR.out _ _ ⟨rfl, NF.out⟩)
    | some y =>
      rw [hrb] at HR0 hyh
      cases hyh
      dsimp only [okOf, Option.isSome]
      by_cases hle : g2 ≤ g1
      · dsimp only at HR0
        rw [if_pos hle] at HR0
        dsimp only [hdV, hdC, zeroH] at HR0
        have HR := Lib.hid HR0
        clear HR0 HRR hra hrb
        have d1 : decide (g1 ≥ g2) = true := decide_eq_true hle
        have d2 : decide (g2 ≤ g1) = true := decide_eq_true hle
        have YF := Lib.hid (five_set X4.out (.int .u64 g1) (.int .i64 r1) (.int .i64 s1) (.int .i64 t1) (.int .i64 c1))
        have NF := Lib.hid (M4.out.then_ (five_mod _ w.heap.size (.int .u64 g1) (.int .i64 r1) (.int .i64 s1) (.int .i64 t1) (.int .i64 c1)) (fun i hi q => by omega))
        go_wp2_with fail
        generalize World.setCell _ _ _ = wF at *
        have rr0 := YF.out.at_ (i := 0) _ rfl
        have rr1 := YF.out.at_ (i := 1) _ rfl
        have rr2 := YF.out.at_ (i := 2) _ rfl
        have rr3 := YF.out.at_ (i := 3) _ rfl
        have rr4 := YF.out.at_ (i := 4) _ rfl
        exact bodyPost_ret (v := .tuple #[.agg #[.int .u64 g1, .int .i64 r1, .int .i64 s1, .int .i64 t1, .int .i64 c1], .int .i64 0, .bool true]) (by simp [results, Tryz.results20, go_sem, rr0, rr1, rr2, rr3, rr4]) rfl (HR.out _ _ ⟨rfl, NF.out⟩)
      · dsimp only at HR0
        rw [if_neg hle] at HR0
        dsimp only [hdV, hdC, zeroH] at HR0
        have HR := Lib.hid HR0
        clear HR0 HRR hra hrb
        have d1 : decide (g1 ≥ g2) = false := decide_eq_false hle
        have d2 : decide (g2 ≤ g1) = false := decide_eq_false hle
        have YF := Lib.hid (five_set X4.out (.int .u64 g2) (.int .i64 r2) (.int .i64 s2) (.int .i64 t2) (.int .i64 c2))
        have NF := Lib.hid (M4.out.then_ (five_mod _ w.heap.size (.int .u64 g2) (.int .i64 r2) (.int .i64 s2) (.int .i64 t2) (.int .i64 c2)) (fun i hi q => by omega))
        go_wp2_with fail
        generalize World.setCell _ _ _ = wF at *
        have rr0 := YF.out.at_ (i := 0) _ rfl
        have rr1 := YF.out.at_ (i := 1) _ rfl
        have rr2 := YF.out.at_ (i := 2) _ rfl
        have rr3 := YF.out.at_ (i := 3) _ rfl
        have rr4 := YF.out.at_ (i := 4) _ rfl
        exact bodyPost_ret (v := .tuple #[.agg #[.int .u64 g2, .int .i64 r2, .int .i64 s2, .int .i64 t2, .int .i64 c2], .int .i64 1, .bool true]) (by simp [results, Tryz.results20, go_sem, rr0, rr1, rr2, rr3, rr4]) rfl (HR.out _ _ ⟨rfl, NF.out⟩)
end Go.Proofs.YtjkndfenniongaaGreatDoor
set_option maxRecDepth 100000
/- The document's bytes of a node. -/
namespace Go.Proofs.YtjkndfenniongaaGreatDoor
open Go Go.RowKit
def pairsB (L : List (Int × Int)) : List UInt8 := L.flatMap fun p => leB p.1 8 ++ leB p.2 8
def leaf0 (lv : Int) (L : List (Int × Int)) : List UInt8 := leB 76 1 ++ leB lv 1 ++ leB (L.length : Int) 1 ++ leB 0 1 ++ pairsB L
def leafB (lv : Int) (L : List (Int × Int)) : List UInt8 := sealL (leaf0 lv L ++ List.replicate (248 - 16 * L.length) 0)
theorem pairsB_len (L : List (Int × Int)) : (pairsB L).length = 16 * L.length := by
  unfold pairsB
  induction L with
  | nil => rfl
  | cons x L ih => rw [List.flatMap_cons, List.length_append, ih, List.length_append, leB_len, leB_len, List.length_cons]; omega
theorem conv4_at (w : World) (b : Nat) (v0 v1 v2 v3 : UInt8) (h0 : w.cell? ⟨b, 0, none⟩ = some (.int .u8 (v0.toNat : Int))) (h1 : w.cell? ⟨b, 1, none⟩ = some (.int .u8 (v1.toNat : Int))) (h2 : w.cell? ⟨b, 2, none⟩ = some (.int .u8 (v2.toNat : Int))) (h3 : w.cell? ⟨b, 3, none⟩ = some (.int .u8 (v3.toNat : Int))) :
    (convert 40 9 (.slice (some ⟨b, 0, none⟩) 4 4)).run Tryz.prog w = .ok (.string ⟨[v0, v1, v2, v3].toArray⟩) w := by
  have e : strOfNums [(v0.toNat : Int), (v1.toNat : Int), (v2.toNat : Int), (v3.toNat : Int)] = ⟨[v0, v1, v2, v3].toArray⟩ := strOfNums_bytes [v0, v1, v2, v3]
  rw [← e]
  refine run_convert_bytes_arg (P := Tryz.prog) _ 40 5 Tryz.underlying40 Tryz.underlying5 b 0 4 4 _ rfl ?_ 9 Tryz.underlying9
  intro i hi
  match i, hi with
  | 0, _ => exact h0
  | 1, _ => exact h1
  | 2, _ => exact h2
  | 3, _ => exact h3
theorem byte_of (n : Int) (h : 0 ≤ n ∧ n < 256) : ∃ v : UInt8, (v.toNat : Int) = n ∧ leB n 1 = [v] := by
  refine ⟨UInt8.ofNat n.toNat, by rw [UInt8.toNat_ofNat']; omega, ?_⟩
  rw [show leB n 1 = leB n 0 ++ [UInt8.ofNat (n / 256 ^ 0 % 256).toNat] from leB_succ n 0]
  have e1 : (n / 256 ^ 0 % 256).toNat = n.toNat := by simp; omega
  rw [e1]; rfl
set_option maxHeartbeats 8000000 in
theorem rbytes5_any (lv : Int) (a : Option Addr) (c : Nat) (L : List (Int × Int)) (hg : goodL lv L = true) (hu : ∀ x ∈ L, U64 x.1 ∧ U64 x.2) (w : World) (hP : Prs w a L) : Calls Tryz.prog 67 #[.agg #[.int .i64 lv, .slice a L.length c]] w fun e w' => e = .returned (strV (leafB lv L)) ∧ Same w w' := by
  refine opq fun R HR => ?_
  have hgl := good_len hg
  have X0 := Lib.hid (Blk.new w #[.int .i64 lv, .slice a L.length c] 75)
  have M0 := Lib.hid (show Same w (w.alloc (.cells #[.int .i64 lv, .slice a L.length c] 75)) from (Mod.refl _ _).alloc _)
  have HP := Lib.hid (hP.same M0.out)
  have HU := Lib.hid hu
  obtain ⟨b1, hb1, hB1⟩ := byte_of lv (by omega)
  obtain ⟨b2, hb2, hB2⟩ := byte_of (L.length : Int) (by omega)
  unfold leafB leaf0 at HR
  rw [hB1, hB2, show leB 76 1 = [76] by decide, show leB 0 1 = [0] by decide] at HR
  obtain ⟨n, hn⟩ : ∃ n, L.length = n := ⟨_, rfl⟩
  have HN := Lib.hid hn
  rw [hn] at X0 M0 HP hgl hb2 HR ⊢
  clear hP hu hn hg hB1 hB2
  have u1 : IntKind.u8.wrap lv = (b1.toNat : Int) := by rw [hb1]; exact IntWalk.u8_in _ (by omega)
  have u2 : IntKind.u8.wrap (n : Int) = (b2.toNat : Int) := by rw [hb2]; exact IntWalk.u8_in _ (by omega)
  have HCv := Lib.hid (fun (b : Nat) (w' : World) (h : Blk w' b #[.int .u8 76, .int .u8 (b1.toNat : Int), .int .u8 (b2.toNat : Int), .int .u8 0]) => conv4_at w' b 76 b1 b2 0 (h.at_ (i := 0) _ rfl) (h.at_ (i := 1) _ rfl) (h.at_ (i := 2) _ rfl) (h.at_ (i := 3) _ rfl))
  have kc := HCv.out _ _ (Blk.new (w.alloc (.cells #[.int .i64 lv, .slice a n c] 75)) #[.int .u8 76, .int .u8 (b1.toNat : Int), .int .u8 (b2.toNat : Int), .int .u8 0] 5)
  rw [show (w.alloc (.cells #[.int .i64 lv, .slice a n c] 75)).heap.size = w.heap.size + 1 by simp] at kc
  have M1 := Lib.hid (show Same w ((w.alloc (.cells #[.int .i64 lv, .slice a n c] 75)).alloc (.cells #[.int .u8 76, .int .u8 (b1.toNat : Int), .int .u8 (b2.toNat : Int), .int .u8 0] 5)) from M0.out.alloc _)
  have X1 := Lib.hid (X0.out.alloc (.cells #[.int .u8 76, .int .u8 (b1.toNat : Int), .int .u8 (b2.toNat : Int), .int .u8 0] 5))
  have P1 := Lib.hid (HP.out.same (show Same (w.alloc (.cells #[.int .i64 lv, .slice a n c] 75)) ((w.alloc (.cells #[.int .i64 lv, .slice a n c] 75)).alloc (.cells #[.int .u8 76, .int .u8 (b1.toNat : Int), .int .u8 (b2.toNat : Int), .int .u8 0] 5)) from (Mod.refl _ _).alloc _))
  clear hb1 hb2
  go_enter Tryz.func67, Tryz.ntmps67
  go_wp2_with fail
  clear kc u1 u2
  generalize (w.alloc _).alloc _ = W at *
  generalize hZ : w.heap.size = Z at *
  go_loopw [3, 4] (fun vs vi wr => ∃ k : Nat, k ≤ n ∧ vi = .int .i64 (k : Int) ∧ vs = strV ([76, b1, b2, 0] ++ pairsB (L.take k)) ∧ Same W wr) (fun _ vi _ => n - (intOf vi).toNat)
  case atStart => exact ⟨0, by omega, rfl, by simp [pairsB, strV], Mod.refl _ _⟩
  case round =>
    obtain ⟨k, hk, rfl, rfl, M⟩ := hrel
    have J := Lib.hid M
    have x1 := (X1.out.mod M (fun q => q)).at_ (i := 1) _ rfl
    have hZr : Z < wr.heap.size := Nat.lt_of_lt_of_le X1.out.lt M.size
    clear M
    unfold strV
    by_cases hlt : k < n
    · obtain ⟨b, o, rfl, hb, hc⟩ := P1.out (by rw [HN.out]; omega)
      obtain ⟨y, hy⟩ : ∃ y, L[k]? = some y := ⟨_, List.getElem?_eq_getElem (by rw [HN.out]; omega)⟩
      have e0 := (J.out.cell hb (fun q => q) _).trans (hc k y hy).1
      have e1 := (J.out.cell hb (fun q => q) _).trans (hc k y hy).2
      have hbr : b < wr.heap.size := Nat.lt_of_lt_of_le hb J.out.size
      have huy := HU.out y (List.mem_of_getElem? hy)
      have HB0 := Lib.hid (fun w => refB_any y.1 8 huy.1 8 (by decide) w)
      have HB1 := Lib.hid (fun w => refB_any y.2 8 huy.2 8 (by decide) w)
      have E := Lib.hid (show [76, b1, b2, 0] ++ pairsB (L.take (k + 1)) = ([76, b1, b2, 0] ++ pairsB (L.take k)) ++ leB y.1 8 ++ leB y.2 8 by
        unfold pairsB
        rw [List.take_add_one, hy, List.flatMap_append]
        simp)
      have hsz : (⟨([76, b1, b2, 0] ++ pairsB (L.take k)).toArray⟩ : ByteArray).size ≤ 300 := by
        rw [bytes_size, List.length_append, pairsB_len, List.length_take]; simp; omega
      have hs1 : (⟨(leB y.1 8).toArray⟩ : ByteArray).size = 8 := by rw [bytes_size, leB_len]
      have hs2 : (⟨(leB y.2 8).toArray⟩ : ByteArray).size = 8 := by rw [bytes_size, leB_len]
      have hal : ([76, b1, b2, 0] ++ pairsB (L.take k)).length ≤ 300 := by rw [List.length_append, pairsB_len, List.length_take]; simp; omega
      clear hc hy huy hb
      generalize leB y.1 8 = l0 at *
      generalize leB y.2 8 = l1 at *
      generalize [76, b1, b2, 0] ++ pairsB (L.take k) = ac at *
      have hs3 : ((⟨ac.toArray⟩ : ByteArray) ++ ⟨l0.toArray⟩).size ≤ 308 := by rw [ByteArray.size_append]; omega
      have hov1 : ¬ 9223372036854775807 < ac.length + 8 := by omega
      have hov2 : ¬ 9223372036854775807 < ac.length + 8 + 8 := by omega
      have A0 := Lib.hid ((Mod.refl (fun _ => False) wr).drew)
      go_wp2_with fail
      refine wp_region_held_drew (S := fun w' => Same wr w') (by kernel_rfl) (by (try dsimp only); exact (Mod.refl _ _).drew) (fun hHeld => ?_)
      refine wpAnyH_take (i := 0) (v := ?_) rfl (by kernel_rfl) (by kernel_rfl) (by kernel_rfl) (fun _ _ _ h => h) (Or.inl ⟨by rfl, ?_⟩) (by assumption) ?_
      rotate_left
      · intro w hSw
        try dsimp only at hSw
        go_simp
        try with_reducible rfl
      try simp only [List.getElem_toArray, List.getElem_cons_succ, List.getElem_cons_zero, Act.put, List.setIfInBounds_toArray, List.set_cons_zero, List.set_cons_succ]
      refine wpAnyH_take (i := 1) (v := ?_) rfl (by kernel_rfl) (by kernel_rfl) (by kernel_rfl) (fun _ _ _ h => h) (Or.inl ⟨by rfl, ?_⟩) (by assumption) ?_
      rotate_left
      · intro w hSw
        try dsimp only at hSw
        go_simp
        try with_reducible rfl
      try simp only [List.getElem_toArray, List.getElem_cons_succ, List.getElem_cons_zero, Act.put, List.setIfInBounds_toArray, List.set_cons_zero, List.set_cons_succ]
      refine wpAnyH_take (i := 2) (v := ?_) rfl (by kernel_rfl) (by kernel_rfl) (by kernel_rfl) (fun _ _ _ h => h) (Or.inl ⟨by rfl, ?_⟩) (by assumption) ?_
      rotate_left
      · intro w hSw
        try dsimp only at hSw
        have g1 := (hSw.cell hZr (fun q => q) 1).trans x1
        go_simp
        try with_reducible rfl
      try simp only [List.getElem_toArray, List.getElem_cons_succ, List.getElem_cons_zero, Act.put, List.setIfInBounds_toArray, List.set_cons_zero, List.set_cons_succ]
      refine wpAnyH_take (i := 3) (v := ?_) rfl (by kernel_rfl) (by kernel_rfl) (by kernel_rfl) (fun _ _ _ h => h) (Or.inl ⟨by rfl, ?_⟩) (by assumption) ?_
      rotate_left
      · intro w hSw
        try dsimp only at hSw
        go_simp
        try with_reducible rfl
      try simp only [List.getElem_toArray, List.getElem_cons_succ, List.getElem_cons_zero, Act.put, List.setIfInBounds_toArray, List.set_cons_zero, List.set_cons_succ]
      refine wpAnyH_take (i := 4) (v := ?_) rfl (by kernel_rfl) (by kernel_rfl) (by kernel_rfl) (fun _ _ _ h => h) (Or.inl ⟨by rfl, ?_⟩) (by assumption) ?_
      rotate_left
      · intro w hSw
        try dsimp only at hSw
        go_simp
        try with_reducible rfl
      try simp only [List.getElem_toArray, List.getElem_cons_succ, List.getElem_cons_zero, Act.put, List.setIfInBounds_toArray, List.set_cons_zero, List.set_cons_succ]
      refine wpAnyH_take (i := 5) (v := ?_) rfl (by kernel_rfl) (by kernel_rfl) (by kernel_rfl) (fun _ _ _ h => h) (Or.inl ⟨by rfl, ?_⟩) (by assumption) ?_
      rotate_left
      · intro w hSw
        try dsimp only at hSw
        go_simp
        try with_reducible rfl
      try simp only [List.getElem_toArray, List.getElem_cons_succ, List.getElem_cons_zero, Act.put, List.setIfInBounds_toArray, List.set_cons_zero, List.set_cons_succ]
      refine wpAnyH_take (i := 6) (v := ?_) rfl (by kernel_rfl) (by kernel_rfl) (by kernel_rfl) (fun _ _ _ h => h) (Or.inl ⟨by rfl, ?_⟩) (by assumption) ?_
      rotate_left
      · intro w hSw
        try dsimp only at hSw
        have g1 := (hSw.cell hbr (fun q => q) _).trans e0
        go_simp
        try with_reducible rfl
      try simp only [List.getElem_toArray, List.getElem_cons_succ, List.getElem_cons_zero, Act.put, List.setIfInBounds_toArray, List.set_cons_zero, List.set_cons_succ]
      refine wpAnyH_take (i := 9) (v := ?_) rfl (by kernel_rfl) (by kernel_rfl) (by kernel_rfl) (fun _ _ _ h => h) (Or.inl ⟨by rfl, ?_⟩) (by assumption) ?_
      rotate_left
      · intro w hSw
        try dsimp only at hSw
        go_simp
        try with_reducible rfl
      try simp only [List.getElem_toArray, List.getElem_cons_succ, List.getElem_cons_zero, Act.put, List.setIfInBounds_toArray, List.set_cons_zero, List.set_cons_succ]
      refine wpAnyH_take (i := 10) (v := ?_) rfl (by kernel_rfl) (by kernel_rfl) (by kernel_rfl) (fun _ _ _ h => h) (Or.inl ⟨by rfl, ?_⟩) (by assumption) ?_
      rotate_left
      · intro w hSw
        try dsimp only at hSw
        have g1 := (hSw.cell hZr (fun q => q) 1).trans x1
        go_simp
        try with_reducible rfl
      try simp only [List.getElem_toArray, List.getElem_cons_succ, List.getElem_cons_zero, Act.put, List.setIfInBounds_toArray, List.set_cons_zero, List.set_cons_succ]
      refine wpAnyH_take (i := 11) (v := ?_) rfl (by kernel_rfl) (by kernel_rfl) (by kernel_rfl) (fun _ _ _ h => h) (Or.inl ⟨by rfl, ?_⟩) (by assumption) ?_
      rotate_left
      · intro w hSw
        try dsimp only at hSw
        go_simp
        try with_reducible rfl
      try simp only [List.getElem_toArray, List.getElem_cons_succ, List.getElem_cons_zero, Act.put, List.setIfInBounds_toArray, List.set_cons_zero, List.set_cons_succ]
      refine wpAnyH_take (i := 12) (v := ?_) rfl (by kernel_rfl) (by kernel_rfl) (by kernel_rfl) (fun _ _ _ h => h) (Or.inl ⟨by rfl, ?_⟩) (by assumption) ?_
      rotate_left
      · intro w hSw
        try dsimp only at hSw
        go_simp
        try with_reducible rfl
      try simp only [List.getElem_toArray, List.getElem_cons_succ, List.getElem_cons_zero, Act.put, List.setIfInBounds_toArray, List.set_cons_zero, List.set_cons_succ]
      refine wpAnyH_take (i := 13) (v := ?_) rfl (by kernel_rfl) (by kernel_rfl) (by kernel_rfl) (fun _ _ _ h => h) (Or.inl ⟨by rfl, ?_⟩) (by assumption) ?_
      rotate_left
      · intro w hSw
        try dsimp only at hSw
        go_simp
        try with_reducible rfl
      try simp only [List.getElem_toArray, List.getElem_cons_succ, List.getElem_cons_zero, Act.put, List.setIfInBounds_toArray, List.set_cons_zero, List.set_cons_succ]
      refine wpAnyH_take (i := 14) (v := ?_) rfl (by kernel_rfl) (by kernel_rfl) (by kernel_rfl) (fun _ _ _ h => h) (Or.inl ⟨by rfl, ?_⟩) (by assumption) ?_
      rotate_left
      · intro w hSw
        try dsimp only at hSw
        have g1 := (hSw.cell hbr (fun q => q) _).trans e1
        go_simp
        try with_reducible rfl
      try simp only [List.getElem_toArray, List.getElem_cons_succ, List.getElem_cons_zero, Act.put, List.setIfInBounds_toArray, List.set_cons_zero, List.set_cons_succ]
      refine wpAnyH_ready (rs := [7]) (by kernel_rfl) (by simp) ?_
      refine AllReadyH.cons rfl (fun Kc hKc => ?_) AllReadyH.nil
      go_simp
      refine (HB0.out _).mono ?_
      rintro e wB ⟨rfl, MA⟩
      have A1 := Lib.hid (A0.out.same MA)
      clear MA
      go_wp2_with fail
      refine hKc.out _ _ (by (try dsimp only); exact A1.out) (fun hHeld => ?_)
      clear hKc Kc
      try simp only [List.getElem_toArray, List.getElem_cons_succ, List.getElem_cons_zero, Act.put, List.setIfInBounds_toArray, List.set_cons_zero, List.set_cons_succ]
      refine wpAnyH_take (i := 8) (v := ?_) rfl (by kernel_rfl) (by kernel_rfl) (by kernel_rfl) (fun _ _ _ h => h) (Or.inl ⟨by rfl, ?_⟩) (by assumption) ?_
      rotate_left
      · intro w hSw
        try dsimp only at hSw
        go_simp
        try with_reducible rfl
      try simp only [List.getElem_toArray, List.getElem_cons_succ, List.getElem_cons_zero, Act.put, List.setIfInBounds_toArray, List.set_cons_zero, List.set_cons_succ]
      refine wpAnyH_ready (rs := [15]) (by kernel_rfl) (by simp) ?_
      refine AllReadyH.cons rfl (fun Kc hKc => ?_) AllReadyH.nil
      go_simp
      refine (HB1.out _).mono ?_
      rintro e wB ⟨rfl, MA⟩
      have A2 := Lib.hid (A1.out.same MA)
      clear MA
      go_wp2_with fail
      refine hKc.out _ _ (by (try dsimp only); exact A2.out) (fun hHeld => ?_)
      clear hKc Kc
      try simp only [List.getElem_toArray, List.getElem_cons_succ, List.getElem_cons_zero, Act.put, List.setIfInBounds_toArray, List.set_cons_zero, List.set_cons_succ]
      refine wpAnyH_take (i := 16) (v := ?_) rfl (by kernel_rfl) (by kernel_rfl) (by kernel_rfl) (fun _ _ _ h => h) (Or.inl ⟨by rfl, ?_⟩) (by assumption) ?_
      rotate_left
      · intro w hSw
        try dsimp only at hSw
        go_simp
        try with_reducible rfl
      try simp only [List.getElem_toArray, List.getElem_cons_succ, List.getElem_cons_zero, Act.put, List.setIfInBounds_toArray, List.set_cons_zero, List.set_cons_succ]
      refine wpAnyH_take (i := 17) (v := ?_) rfl (by kernel_rfl) (by kernel_rfl) (by kernel_rfl) (fun _ _ _ h => h) (Or.inl ⟨by rfl, ?_⟩) (by assumption) ?_
      rotate_left
      · intro w hSw
        try dsimp only at hSw
        go_simp
        try with_reducible rfl
      try simp only [List.getElem_toArray, List.getElem_cons_succ, List.getElem_cons_zero, Act.put, List.setIfInBounds_toArray, List.set_cons_zero, List.set_cons_succ]
      refine wpAnyH_done (by kernel_rfl) ?_ _
      go_wp2_with fail
      go_roundw
      case rel => exact ⟨k + 1, by omega, by go_num, by rw [E.out, ← str_app, ← str_app], J.out.same A2.out⟩
      case measure => simp [intOf]; omega
    · obtain rfl : k = n := by omega
      have hfin : L.take k = L := List.take_of_length_le (by rw [HN.out]; exact Nat.le_refl _)
      rw [hfin]
      have hpl := pairsB_len L
      rw [HN.out] at hpl
      have HPl := Lib.hid hpl
      clear hfin hpl
      generalize pairsB L = PB at *
      go_wp2_with fail
      clear x1
      go_loopw [3] (fun vs wq => ∃ j : Nat, j ≤ 248 - 16 * k ∧ vs = strV ([76, b1, b2, 0] ++ PB ++ List.replicate j 0) ∧ wq = wr) (fun vs _ => match vs with | .string s => 252 - s.size | _ => 0)
      case atStart => exact ⟨0, by omega, by simp [strV], rfl⟩
      case round =>
        obtain ⟨j, hj, rfl, rfl⟩ := hrel
        have hsz : (⟨([76, b1, b2, 0] ++ PB ++ List.replicate j 0).toArray⟩ : ByteArray).size = 4 + 16 * k + j := by
          rw [bytes_size]; simp [HPl.out]; omega
        have hE2 : (⟨([76, b1, b2, 0] ++ PB ++ List.replicate j 0).toArray⟩ : ByteArray) ++ ⟨#[0]⟩ = ⟨([76, b1, b2, 0] ++ PB ++ List.replicate (j + 1) 0).toArray⟩ := by
          rw [show (⟨#[0]⟩ : ByteArray) = ⟨[0].toArray⟩ from rfl, str_app, List.replicate_succ', ← List.append_assoc]
        have HE2 := Lib.hid hE2
        clear hE2
        have hk15 : k ≤ 15 := hgl.1
        unfold strV
        by_cases hlt2 : j < 248 - 16 * k
        · have hsz2 : (⟨([76, b1, b2, 0] ++ PB ++ List.replicate (j + 1) 0).toArray⟩ : ByteArray).size = 4 + 16 * k + (j + 1) := by
            rw [bytes_size]; simp [HPl.out]; omega
          have HSz := Lib.hid hsz
          have HSz2 := Lib.hid hsz2
          clear hsz2
          generalize [76, b1, b2, 0] ++ PB ++ List.replicate j 0 = cu at *
          generalize hnx : [76, b1, b2, 0] ++ PB ++ List.replicate (j + 1) 0 = nx at *
          have HNx := Lib.hid hnx
          clear hnx
          go_wp2_with fail
          go_roundw
          case rel => exact ⟨j + 1, by omega, by rw [HE2.out, HNx.out], trivial⟩
          case measure =>
            show 252 - ((⟨cu.toArray⟩ : ByteArray) ++ ⟨#[0]⟩).size < 252 - (⟨cu.toArray⟩ : ByteArray).size
            rw [HE2.out, HSz.out, HSz2.out]; omega
        · obtain rfl : j = 248 - 16 * k := by omega
          have HSl := Lib.hid (fun w => refSeal_any ([76, b1, b2, 0] ++ PB ++ List.replicate (248 - 16 * k) 0) (by simp [HPl.out]; omega) w)
          have hss : [76] ++ [b1] ++ [b2] ++ [0] ++ PB ++ List.replicate (248 - 16 * k) 0 = [76, b1, b2, 0] ++ PB ++ List.replicate (248 - 16 * k) (0 : UInt8) := by simp
          rw [hss] at HR
          have HSz := Lib.hid hsz
          have hsz2 : (⟨([76, b1, b2, 0] ++ PB ++ List.replicate (248 - 16 * k) 0).toArray⟩ : ByteArray).size = 252 := by rw [hsz]; omega
          have hlen2 : ([76, b1, b2, 0] ++ PB ++ List.replicate (248 - 16 * k) (0 : UInt8)).length = 252 := by simp [HPl.out]; omega
          clear hss hsz HE2
          generalize sealL ([76, b1, b2, 0] ++ PB ++ List.replicate (248 - 16 * k) 0) = SL at *
          generalize [76, b1, b2, 0] ++ PB ++ List.replicate (248 - 16 * k) 0 = cu at *
          unfold strV at HR
          go_wp2_with fail
          refine (HSl.out _).mono ?_
          rintro e w9 ⟨rfl, M⟩
          have M9 := Lib.hid (M1.out.same (J.out.same M))
          clear M HSl
          go_wp2_with fail
          exact HR.out _ _ ⟨rfl, M9.out⟩
end Go.Proofs.YtjkndfenniongaaGreatDoor
set_option maxRecDepth 100000
/- The document's reading of a node. -/
namespace Go.Proofs.YtjkndfenniongaaGreatDoor
open Go Go.RowKit
def prD (l : List UInt8) (i : Nat) : Int × Int := (leV ((l.drop (4 + 16 * i)).take 8), leV ((l.drop (4 + 16 * i + 8)).take 8))
def prsD (l : List UInt8) (k : Nat) : List (Int × Int) := (List.range k).map (prD l)
def lvD (l : List UInt8) : Int := ((l.getD 1 0).toNat : Int)
def nD (l : List UInt8) : Nat := min (l.getD 2 0).toNat 15
def readLD (l : List UInt8) : Option (Int × List (Int × Int)) := if goodL (lvD l) (prsD l (nD l)) = true ∧ leafB (lvD l) (prsD l (nD l)) = l then some (lvD l, prsD l (nD l)) else none
def RLeaf (l : List UInt8) (B : Nat) (e : Ending) (w' : World) : Prop := match readLD l with
  | none => e = .returned (.tuple #[.agg #[.int .i64 0, .slice none 0 0], .bool false])
  | some (lv, L) => ∃ a c, e = .returned (.tuple #[.agg #[.int .i64 lv, .slice a L.length c], .bool true]) ∧ Prs w' a L ∧ ∀ b o, a = some ⟨b, o, none⟩ → B < b
theorem prsD_len (l : List UInt8) (k : Nat) : (prsD l k).length = k := by unfold prsD; simp
theorem prsD_u64 (l : List UInt8) (k : Nat) : ∀ x ∈ prsD l k, U64 x.1 ∧ U64 x.2 := fun x hx => by
  unfold prsD at hx
  obtain ⟨i, _, rfl⟩ := List.mem_map.1 hx
  exact ⟨leV_u64 _, leV_u64 _⟩
set_option maxHeartbeats 16000000 in
theorem rread5_any (l : List UInt8) (hl : l.length = 256) (w : World) : Calls Tryz.prog 40 #[strV l] w fun e w' => RLeaf l w.heap.size e w' ∧ Same w w' := by
  refine opq fun R HR => ?_
  unfold strV
  have hls : (⟨l.toArray⟩ : ByteArray).size = 256 := by rw [bytes_size]; exact hl
  have HL := Lib.hid hl
  obtain ⟨b1, hb1⟩ : ∃ v, l.getD 1 0 = v := ⟨_, rfl⟩
  obtain ⟨b2, hb2⟩ : ∃ v, l.getD 2 0 = v := ⟨_, rfl⟩
  have hx1 : ∀ h, (⟨l.toArray⟩ : ByteArray)[1]'h = b1 := fun h => by rw [← hb1, List.getD_eq_getElem?_getD, List.getElem?_eq_getElem (by omega)]; rfl
  have hx2 : ∀ h, (⟨l.toArray⟩ : ByteArray)[2]'h = b2 := fun h => by rw [← hb2, List.getD_eq_getElem?_getD, List.getElem?_eq_getElem (by omega)]; rfl
  have hlt1 := b1.toNat_lt
  have hlt2 := b2.toNat_lt
  have hlvD : lvD l = (b1.toNat : Int) := by unfold lvD; rw [hb1]
  have hnD : nD l = min b2.toNat 15 := by unfold nD; rw [hb2]
  have HLV := Lib.hid hlvD
  have HND := Lib.hid hnD
  have hnn : nD l ≤ 15 := by omega
  obtain ⟨n, hn⟩ : ∃ n, nD l = n := ⟨_, rfl⟩
  have HNN := Lib.hid hn
  rw [hn] at hnD hnn
  have hnb : n ≤ b2.toNat := by omega
  have hnc : n = b2.toNat ∨ n = 15 := by omega
  clear hnD
  have HRR := Lib.hid HR
  have M0 := Lib.hid (show Same w ((w.alloc (.cells #[.int .i64 0, .slice none 0 0] 75)).alloc (.cells #[.int .i64 (b1.toNat : Int), .slice none 0 0] 75)) from ((Mod.refl _ _).alloc _).alloc _)
  have Z0 := Lib.hid ((Blk.new w #[.int .i64 0, .slice none 0 0] 75).alloc (.cells #[.int .i64 (b1.toNat : Int), .slice none 0 0] 75))
  have X0 := Lib.hid (Blk.new (w.alloc (.cells #[.int .i64 0, .slice none 0 0] 75)) #[.int .i64 (b1.toNat : Int), .slice none 0 0] 75)
  rw [show (w.alloc (.cells #[.int .i64 0, .slice none 0 0] 75)).heap.size = w.heap.size + 1 by simp] at X0
  clear HR hb1 hb2 hlvD hn hl
  go_enter Tryz.func40, Tryz.ntmps40
  go_wp2_with fail
  have hBs : ((w.alloc (.cells #[.int .i64 0, .slice none 0 0] 75)).alloc (.cells #[.int .i64 (b1.toNat : Int), .slice none 0 0] 75)).heap.size = w.heap.size + 2 := by simp
  generalize (w.alloc _).alloc _ = W at *
  obtain ⟨Bs, hBs2⟩ : ∃ z, w.heap.size + 2 = z := ⟨_, rfl⟩
  obtain ⟨Z1, hZ1⟩ : ∃ z, w.heap.size + 1 = z := ⟨_, rfl⟩
  rw [hBs2] at hBs
  rw [hZ1] at X0 ⊢
  obtain ⟨i0, hi, hz0, hz1, hz2⟩ := info_parts info123'
  have I0 := Lib.hid hi
  have Z0i := Lib.hid hz0
  have Z1i := Lib.hid hz1
  have Z2i := Lib.hid hz2
  have HBs := Lib.hid hBs
  clear hi hz0 hz1 hz2 hBs
  go_loopw [5, 6] (fun vi _ wr => ∃ (k : Nat) (a : Option Addr) (c : Nat), k ≤ n ∧ vi = .int .i64 (k : Int) ∧ Blk wr Z1 #[.int .i64 (b1.toNat : Int), .slice a k c] ∧ Blk wr w.heap.size #[.int .i64 0, .slice none 0 0] ∧ wr.ownsRow Bs 123 2 (.slice a k c) k ((prsD l k).flatMap prC) ∧ Same w wr ∧ Bs ≤ wr.heap.size) (fun vi _ _ => n - (intOf vi).toNat)
  case atStart => exact ⟨0, none, 0, by omega, rfl, X0.out, Z0.out, World.ownsRow_nil _ _ _ _, M0.out, Nat.le_of_eq HBs.out.symm⟩
  case round =>
    obtain ⟨k, a, c, hk, rfl, hx, hz, ho, M, hsz⟩ := hrel
    have XR := Lib.hid hx
    have ZR := Lib.hid hz
    have OW := Lib.hid ho
    have J := Lib.hid M
    clear hx hz ho M
    have hne : (Value.slice a k c).ownBlock ≠ some Z1 := fun e => by have := (OW.out.lt _ e).1; omega
    have hne0 : (Value.slice a k c).ownBlock ≠ some w.heap.size := fun e => by have := (OW.out.lt _ e).1; omega
    by_cases hlt : k < n
    · have hkb : k < b2.toNat ∧ k < 15 := by omega
      have e1 := XR.out.at_ (i := 1) _ rfl
      have hZ1lt : Z1 < wr.heap.size := XR.out.lt
      have c1 : decide ((k : Int) < (b2.toNat : Int)) = true := decide_eq_true (by omega)
      have y1 : (⟨l.toArray⟩ : ByteArray).extract (4 + 16 * k) (4 + 16 * k + 8) = ⟨((l.drop (4 + 16 * k)).take 8).toArray⟩ := by
        rw [ext_bytes, show 4 + 16 * k + 8 - (4 + 16 * k) = 8 by omega]
      have y2 : (⟨l.toArray⟩ : ByteArray).extract (4 + 16 * k + 8) (4 + 16 * k + 16) = ⟨((l.drop (4 + 16 * k + 8)).take 8).toArray⟩ := by
        rw [ext_bytes, show 4 + 16 * k + 16 - (4 + 16 * k + 8) = 8 by omega]
      have HN1 := Lib.hid (fun w => refN_any ((l.drop (4 + 16 * k)).take 8) (by simp; omega) w)
      have HN2 := Lib.hid (fun w => refN_any ((l.drop (4 + 16 * k + 8)).take 8) (by simp; omega) w)
      have hsn := Lib.hid (show prsD l (k + 1) = prsD l k ++ [(leV ((l.drop (4 + 16 * k)).take 8), leV ((l.drop (4 + 16 * k + 8)).take 8))] by unfold prsD; rw [List.range_succ, List.map_append]; rfl)
      have wa : IntKind.i64.wrap (4 + 16 * (k : Int) + 8) = 4 + 16 * (k : Int) + 8 := IntWalk.i64_in _ (by omega)
      have wb : IntKind.i64.wrap (4 + 16 * (k : Int) + 16) = 4 + 16 * (k : Int) + 16 := IntWalk.i64_in _ (by omega)
      have p0 : (0 : Int) ≤ 4 + 16 * (k : Int) := by omega
      have p1 : (0 : Int) ≤ 4 + 16 * (k : Int) + 8 := by omega
      have p2 : 4 + 16 * (k : Int) + 8 ≤ 256 := by omega
      have p3 : 4 + 16 * (k : Int) ≤ 4 + 16 * (k : Int) + 8 := by omega
      have p4 : (0 : Int) ≤ 4 + 16 * (k : Int) + 16 := by omega
      have p5 : 4 + 16 * (k : Int) + 16 ≤ 256 := by omega
      have p6 : 4 + 16 * (k : Int) + 8 ≤ 4 + 16 * (k : Int) + 16 := by omega
      have n0 : (4 + 16 * (k : Int)).toNat = 4 + 16 * k := by omega
      have n1 : (4 + 16 * (k : Int) + 8).toNat = 4 + 16 * k + 8 := by omega
      have n2 : (4 + 16 * (k : Int) + 16).toNat = 4 + 16 * k + 16 := by omega
      generalize leV ((l.drop (4 + 16 * k)).take 8) = ky at *
      generalize leV ((l.drop (4 + 16 * k + 8)).take 8) = vl at *
      go_wp2_with fail
      refine wp_region_held_drew (S := fun w' => True) (by kernel_rfl) (by (try dsimp only); all_goals trivial) (fun hHeld => ?_)
      refine wpAnyH_take (i := 0) (v := ?_) rfl (by kernel_rfl) (by kernel_rfl) (by kernel_rfl) (fun _ _ _ h => h) (Or.inl ⟨by rfl, ?_⟩) (by assumption) ?_
      rotate_left
      · intro w hSw
        try dsimp only at hSw
        go_simp
        try with_reducible rfl
      try simp only [List.getElem_toArray, List.getElem_cons_succ, List.getElem_cons_zero, Act.put, List.setIfInBounds_toArray, List.set_cons_zero, List.set_cons_succ]
      refine wpAnyH_take (i := 2) (v := ?_) rfl (by kernel_rfl) (by kernel_rfl) (by kernel_rfl) (fun _ _ _ h => h) (Or.inl ⟨by rfl, ?_⟩) (by assumption) ?_
      rotate_left
      · intro w hSw
        try dsimp only at hSw
        go_simp
        try with_reducible rfl
      try simp only [List.getElem_toArray, List.getElem_cons_succ, List.getElem_cons_zero, Act.put, List.setIfInBounds_toArray, List.set_cons_zero, List.set_cons_succ]
      refine wpAnyH_take (i := 3) (v := ?_) rfl (by kernel_rfl) (by kernel_rfl) (by kernel_rfl) (fun _ _ _ h => h) (Or.inl ⟨by rfl, ?_⟩) (by assumption) ?_
      rotate_left
      · intro w hSw
        try dsimp only at hSw
        go_simp
        try with_reducible rfl
      try simp only [List.getElem_toArray, List.getElem_cons_succ, List.getElem_cons_zero, Act.put, List.setIfInBounds_toArray, List.set_cons_zero, List.set_cons_succ]
      refine wpAnyH_take (i := 4) (v := ?_) rfl (by kernel_rfl) (by kernel_rfl) (by kernel_rfl) (fun _ _ _ h => h) (Or.inl ⟨by rfl, ?_⟩) (by assumption) ?_
      rotate_left
      · intro w hSw
        try dsimp only at hSw
        go_simp
        try with_reducible rfl
      try simp only [List.getElem_toArray, List.getElem_cons_succ, List.getElem_cons_zero, Act.put, List.setIfInBounds_toArray, List.set_cons_zero, List.set_cons_succ]
      refine wpAnyH_take (i := 5) (v := ?_) rfl (by kernel_rfl) (by kernel_rfl) (by kernel_rfl) (fun _ _ _ h => h) (Or.inl ⟨by rfl, ?_⟩) (by assumption) ?_
      rotate_left
      · intro w hSw
        try dsimp only at hSw
        go_simp
        try with_reducible rfl
      try simp only [List.getElem_toArray, List.getElem_cons_succ, List.getElem_cons_zero, Act.put, List.setIfInBounds_toArray, List.set_cons_zero, List.set_cons_succ]
      refine wpAnyH_take (i := 6) (v := ?_) rfl (by kernel_rfl) (by kernel_rfl) (by kernel_rfl) (fun _ _ _ h => h) (Or.inl ⟨by rfl, ?_⟩) (by assumption) ?_
      rotate_left
      · intro w hSw
        try dsimp only at hSw
        go_simp
        try with_reducible rfl
      try simp only [List.getElem_toArray, List.getElem_cons_succ, List.getElem_cons_zero, Act.put, List.setIfInBounds_toArray, List.set_cons_zero, List.set_cons_succ]
      refine wpAnyH_take (i := 8) (v := ?_) rfl (by kernel_rfl) (by kernel_rfl) (by kernel_rfl) (fun _ _ _ h => h) (Or.inl ⟨by rfl, ?_⟩) (by assumption) ?_
      rotate_left
      · intro w hSw
        try dsimp only at hSw
        go_simp
        try with_reducible rfl
      try simp only [List.getElem_toArray, List.getElem_cons_succ, List.getElem_cons_zero, Act.put, List.setIfInBounds_toArray, List.set_cons_zero, List.set_cons_succ]
      refine wpAnyH_take (i := 9) (v := ?_) rfl (by kernel_rfl) (by kernel_rfl) (by kernel_rfl) (fun _ _ _ h => h) (Or.inl ⟨by rfl, ?_⟩) (by assumption) ?_
      rotate_left
      · intro w hSw
        try dsimp only at hSw
        go_simp
        try with_reducible rfl
      try simp only [List.getElem_toArray, List.getElem_cons_succ, List.getElem_cons_zero, Act.put, List.setIfInBounds_toArray, List.set_cons_zero, List.set_cons_succ]
      refine wpAnyH_take (i := 10) (v := ?_) rfl (by kernel_rfl) (by kernel_rfl) (by kernel_rfl) (fun _ _ _ h => h) (Or.inl ⟨by rfl, ?_⟩) (by assumption) ?_
      rotate_left
      · intro w hSw
        try dsimp only at hSw
        go_simp
        try with_reducible rfl
      try simp only [List.getElem_toArray, List.getElem_cons_succ, List.getElem_cons_zero, Act.put, List.setIfInBounds_toArray, List.set_cons_zero, List.set_cons_succ]
      refine wpAnyH_take (i := 11) (v := ?_) rfl (by kernel_rfl) (by kernel_rfl) (by kernel_rfl) (fun _ _ _ h => h) (Or.inl ⟨by rfl, ?_⟩) (by assumption) ?_
      rotate_left
      · intro w hSw
        try dsimp only at hSw
        go_simp
        try with_reducible rfl
      try simp only [List.getElem_toArray, List.getElem_cons_succ, List.getElem_cons_zero, Act.put, List.setIfInBounds_toArray, List.set_cons_zero, List.set_cons_succ]
      refine wpAnyH_take (i := 12) (v := ?_) rfl (by kernel_rfl) (by kernel_rfl) (by kernel_rfl) (fun _ _ _ h => h) (Or.inl ⟨by rfl, ?_⟩) (by assumption) ?_
      rotate_left
      · intro w hSw
        try dsimp only at hSw
        go_simp
        try with_reducible rfl
      try simp only [List.getElem_toArray, List.getElem_cons_succ, List.getElem_cons_zero, Act.put, List.setIfInBounds_toArray, List.set_cons_zero, List.set_cons_succ]
      refine wpAnyH_take (i := 13) (v := ?_) rfl (by kernel_rfl) (by kernel_rfl) (by kernel_rfl) (fun _ _ _ h => h) (Or.inl ⟨by rfl, ?_⟩) (by assumption) ?_
      rotate_left
      · intro w hSw
        try dsimp only at hSw
        go_simp
        try with_reducible rfl
      try simp only [List.getElem_toArray, List.getElem_cons_succ, List.getElem_cons_zero, Act.put, List.setIfInBounds_toArray, List.set_cons_zero, List.set_cons_succ]
      refine wpAnyH_ready (rs := [1, 7]) (by kernel_rfl) (by simp) ?_
      refine AllReadyH.cons rfl (fun Kc hKc => ?_) (AllReadyH.cons rfl (fun Kc hKc => ?_) (AllReadyH.nil))
      · go_simp
        refine hKc.out _ _ (by (try dsimp only); all_goals trivial) (fun hHeld => ?_)
        clear hKc Kc
        try simp only [List.getElem_toArray, List.getElem_cons_succ, List.getElem_cons_zero, Act.put, List.setIfInBounds_toArray, List.set_cons_zero, List.set_cons_succ]
        refine wpAnyH_ready (rs := [7]) (by kernel_rfl) (by simp) ?_
        refine AllReadyH.cons rfl (fun Kc hKc => ?_) AllReadyH.nil
        go_simp
        refine (HN1.out _).mono ?_
        rintro e wq ⟨rfl, rfl⟩
        go_wp2_with fail
        refine hKc.out _ _ (by (try dsimp only); all_goals trivial) (fun hHeld => ?_)
        clear hKc Kc
        try simp only [List.getElem_toArray, List.getElem_cons_succ, List.getElem_cons_zero, Act.put, List.setIfInBounds_toArray, List.set_cons_zero, List.set_cons_succ]
        refine wpAnyH_ready (rs := [14]) (by kernel_rfl) (by simp) ?_
        refine AllReadyH.cons rfl (fun Kc hKc => ?_) AllReadyH.nil
        go_simp
        refine (HN2.out _).mono ?_
        rintro e wq ⟨rfl, rfl⟩
        go_wp2_with fail
        refine hKc.out _ _ (by (try dsimp only); all_goals trivial) (fun hHeld => ?_)
        clear hKc Kc
        try simp only [List.getElem_toArray, List.getElem_cons_succ, List.getElem_cons_zero, Act.put, List.setIfInBounds_toArray, List.set_cons_zero, List.set_cons_succ]
        refine wpAnyH_take (i := 15) (v := ?_) rfl (by kernel_rfl) (by kernel_rfl) (by kernel_rfl) (fun _ _ _ h => h) (Or.inl ⟨by rfl, ?_⟩) (by assumption) ?_
        rotate_left
        · intro w hSw
          try dsimp only at hSw
          go_simp
          try with_reducible rfl
        try simp only [List.getElem_toArray, List.getElem_cons_succ, List.getElem_cons_zero, Act.put, List.setIfInBounds_toArray, List.set_cons_zero, List.set_cons_succ]
        refine wpAnyH_ready (rs := [16]) (by kernel_rfl) (by simp) ?_
        refine AllReadyH.cons rfl (fun Kc hKc => ?_) AllReadyH.nil
        go_simp
        refine hKc.out _ _ (by (try dsimp only); all_goals trivial) (fun hHeld => ?_)
        clear hKc Kc
        try simp only [List.getElem_toArray, List.getElem_cons_succ, List.getElem_cons_zero, Act.put, List.setIfInBounds_toArray, List.set_cons_zero, List.set_cons_succ]
        refine wpAnyH_ready (rs := [17]) (by kernel_rfl) (by simp) ?_
        refine AllReadyH.cons rfl (fun Kc hKc => ?_) AllReadyH.nil
        refine step_append_lies _ rfl (.tmp 30) (.tmp 45) 68 rfl Bs 123 i0 (.agg #[.int .u64 0, .int .u64 0]) 2 16 Tryz.underlying68 I0.out Z0i.out Z1i.out Z2i.out rfl (by decide) (.slice a k c) k _ (by simp [Act.eval, Act.put]) (own_drew (OW.out.alloc _)) ⟨wr.heap.size, 0, none⟩ 1 1 [.int .u64 ky, .int .u64 vl] (by simp [Act.eval, Act.put]) rfl (pr_new wr ky vl 123) (pr_cells ky vl) (by decide) (by unfold maxLen; omega) (by omega) (by simp; omega) (wr.heap.size + 1) (by simp) ?_
        intro g cap w5 hown5 hgrow hgb hgl
        have D1 := blk_grown ((XR.out.alloc (.cells #[.int .u64 ky, .int .u64 vl] 123)).drew) hgrow hne
        have E1 := blk_grown ((ZR.out.alloc (.cells #[.int .u64 ky, .int .u64 vl] 123)).drew) hgrow hne0
        have d1 := D1.at_ (i := 1) _ rfl
        have f1 := D1.free 1
        have O5 := Lib.hid hown5
        have G5 := Lib.hid hgrow
        have hgB : Bs ≤ g := (hown5.lt g rfl).1
        clear hown5 hgrow
        refine hKc.out _ _ (by (try dsimp only); all_goals trivial) (fun hHeld => ?_)
        clear hKc Kc
        try simp only [List.getElem_toArray, List.getElem_cons_succ, List.getElem_cons_zero, Act.put, List.setIfInBounds_toArray, List.set_cons_zero, List.set_cons_succ]
        refine wpAnyH_take (i := 18) (v := ?_) rfl (by kernel_rfl) (by kernel_rfl) (by kernel_rfl) (fun _ _ _ h => h) (Or.inl ⟨by rfl, ?_⟩) (by assumption) ?_
        rotate_left
        · intro w hSw
          try dsimp only at hSw
          go_simp
          try with_reducible rfl
        try simp only [List.getElem_toArray, List.getElem_cons_succ, List.getElem_cons_zero, Act.put, List.setIfInBounds_toArray, List.set_cons_zero, List.set_cons_succ]
        refine wpAnyH_ready (rs := [19]) (by kernel_rfl) (by simp) ?_
        refine AllReadyH.cons rfl (fun Kc hKc => ?_) AllReadyH.nil
        go_simp
        refine hKc.out _ _ (by (try dsimp only); all_goals trivial) (fun hHeld => ?_)
        clear hKc Kc
        try simp only [List.getElem_toArray, List.getElem_cons_succ, List.getElem_cons_zero, Act.put, List.setIfInBounds_toArray, List.set_cons_zero, List.set_cons_succ]
        refine wpAnyH_done (by kernel_rfl) ?_ _
        have T1 := Lib.hid (show Blk _ Z1 #[.int .i64 (b1.toNat : Int), .slice (some ⟨g, 0, none⟩) (k + 1) cap] from D1.set 1 (.slice (some ⟨g, 0, none⟩) (k + 1) cap))
        have T0 := Lib.hid (E1.set_far (p := ⟨Z1, 1, none⟩) (show Z1 ≠ w.heap.size by omega) (.slice (some ⟨g, 0, none⟩) (k + 1) cap))
        have T2 := Lib.hid (ownsRow_setCell_other (a := ⟨Z1, 1, none⟩) O5.out (fun e => by have e2 : g = Z1 := (by simpa [Value.ownBlock] using e); omega) (.slice (some ⟨g, 0, none⟩) (k + 1) cap))
        have T3 := Lib.hid ((((J.out.alloc (.cells #[.int .u64 ky, .int .u64 vl] 123)).drew).grown G5.out (fun j hj hl => by have := (OW.out.lt j hj).1; omega)).setCell (p := ⟨Z1, 1, none⟩) (fun hl => by dsimp only at hl; omega) (.slice (some ⟨g, 0, none⟩) (k + 1) cap))
        have hsz5 : Bs ≤ w5.heap.size := by have := G5.out.size; simp at this; omega
        clear D1 E1 d1 f1 O5 G5
        go_wp2_with fail
        go_roundw
        case rel => exact ⟨k + 1, some ⟨g, 0, none⟩, cap, by omega, by go_num, T1.out, T0.out, by rw [hsn.out, List.flatMap_append]; simpa [prC] using T2.out, T3.out, by simp only [World.size_setCell]; exact hsz5⟩
        case measure => simp [intOf]; omega
      · go_simp
        refine (HN1.out _).mono ?_
        rintro e wq ⟨rfl, rfl⟩
        go_wp2_with fail
        refine hKc.out _ _ (by (try dsimp only); all_goals trivial) (fun hHeld => ?_)
        clear hKc Kc
        try simp only [List.getElem_toArray, List.getElem_cons_succ, List.getElem_cons_zero, Act.put, List.setIfInBounds_toArray, List.set_cons_zero, List.set_cons_succ]
        refine wpAnyH_ready (rs := [1, 14]) (by kernel_rfl) (by simp) ?_
        refine AllReadyH.cons rfl (fun Kc hKc => ?_) (AllReadyH.cons rfl (fun Kc hKc => ?_) (AllReadyH.nil))
        · go_simp
          refine hKc.out _ _ (by (try dsimp only); all_goals trivial) (fun hHeld => ?_)
          clear hKc Kc
          try simp only [List.getElem_toArray, List.getElem_cons_succ, List.getElem_cons_zero, Act.put, List.setIfInBounds_toArray, List.set_cons_zero, List.set_cons_succ]
          refine wpAnyH_ready (rs := [14]) (by kernel_rfl) (by simp) ?_
          refine AllReadyH.cons rfl (fun Kc hKc => ?_) AllReadyH.nil
          go_simp
          refine (HN2.out _).mono ?_
          rintro e wq ⟨rfl, rfl⟩
          go_wp2_with fail
          refine hKc.out _ _ (by (try dsimp only); all_goals trivial) (fun hHeld => ?_)
          clear hKc Kc
          try simp only [List.getElem_toArray, List.getElem_cons_succ, List.getElem_cons_zero, Act.put, List.setIfInBounds_toArray, List.set_cons_zero, List.set_cons_succ]
          refine wpAnyH_take (i := 15) (v := ?_) rfl (by kernel_rfl) (by kernel_rfl) (by kernel_rfl) (fun _ _ _ h => h) (Or.inl ⟨by rfl, ?_⟩) (by assumption) ?_
          rotate_left
          · intro w hSw
            try dsimp only at hSw
            go_simp
            try with_reducible rfl
          try simp only [List.getElem_toArray, List.getElem_cons_succ, List.getElem_cons_zero, Act.put, List.setIfInBounds_toArray, List.set_cons_zero, List.set_cons_succ]
          refine wpAnyH_ready (rs := [16]) (by kernel_rfl) (by simp) ?_
          refine AllReadyH.cons rfl (fun Kc hKc => ?_) AllReadyH.nil
          go_simp
          refine hKc.out _ _ (by (try dsimp only); all_goals trivial) (fun hHeld => ?_)
          clear hKc Kc
          try simp only [List.getElem_toArray, List.getElem_cons_succ, List.getElem_cons_zero, Act.put, List.setIfInBounds_toArray, List.set_cons_zero, List.set_cons_succ]
          refine wpAnyH_ready (rs := [17]) (by kernel_rfl) (by simp) ?_
          refine AllReadyH.cons rfl (fun Kc hKc => ?_) AllReadyH.nil
          refine step_append_lies _ rfl (.tmp 30) (.tmp 45) 68 rfl Bs 123 i0 (.agg #[.int .u64 0, .int .u64 0]) 2 16 Tryz.underlying68 I0.out Z0i.out Z1i.out Z2i.out rfl (by decide) (.slice a k c) k _ (by simp [Act.eval, Act.put]) (own_drew (OW.out.alloc _)) ⟨wr.heap.size, 0, none⟩ 1 1 [.int .u64 ky, .int .u64 vl] (by simp [Act.eval, Act.put]) rfl (pr_new wr ky vl 123) (pr_cells ky vl) (by decide) (by unfold maxLen; omega) (by omega) (by simp; omega) (wr.heap.size + 1) (by simp) ?_
          intro g cap w5 hown5 hgrow hgb hgl
          have D1 := blk_grown ((XR.out.alloc (.cells #[.int .u64 ky, .int .u64 vl] 123)).drew) hgrow hne
          have E1 := blk_grown ((ZR.out.alloc (.cells #[.int .u64 ky, .int .u64 vl] 123)).drew) hgrow hne0
          have d1 := D1.at_ (i := 1) _ rfl
          have f1 := D1.free 1
          have O5 := Lib.hid hown5
          have G5 := Lib.hid hgrow
          have hgB : Bs ≤ g := (hown5.lt g rfl).1
          clear hown5 hgrow
          refine hKc.out _ _ (by (try dsimp only); all_goals trivial) (fun hHeld => ?_)
          clear hKc Kc
          try simp only [List.getElem_toArray, List.getElem_cons_succ, List.getElem_cons_zero, Act.put, List.setIfInBounds_toArray, List.set_cons_zero, List.set_cons_succ]
          refine wpAnyH_take (i := 18) (v := ?_) rfl (by kernel_rfl) (by kernel_rfl) (by kernel_rfl) (fun _ _ _ h => h) (Or.inl ⟨by rfl, ?_⟩) (by assumption) ?_
          rotate_left
          · intro w hSw
            try dsimp only at hSw
            go_simp
            try with_reducible rfl
          try simp only [List.getElem_toArray, List.getElem_cons_succ, List.getElem_cons_zero, Act.put, List.setIfInBounds_toArray, List.set_cons_zero, List.set_cons_succ]
          refine wpAnyH_ready (rs := [19]) (by kernel_rfl) (by simp) ?_
          refine AllReadyH.cons rfl (fun Kc hKc => ?_) AllReadyH.nil
          go_simp
          refine hKc.out _ _ (by (try dsimp only); all_goals trivial) (fun hHeld => ?_)
          clear hKc Kc
          try simp only [List.getElem_toArray, List.getElem_cons_succ, List.getElem_cons_zero, Act.put, List.setIfInBounds_toArray, List.set_cons_zero, List.set_cons_succ]
          refine wpAnyH_done (by kernel_rfl) ?_ _
          have T1 := Lib.hid (show Blk _ Z1 #[.int .i64 (b1.toNat : Int), .slice (some ⟨g, 0, none⟩) (k + 1) cap] from D1.set 1 (.slice (some ⟨g, 0, none⟩) (k + 1) cap))
          have T0 := Lib.hid (E1.set_far (p := ⟨Z1, 1, none⟩) (show Z1 ≠ w.heap.size by omega) (.slice (some ⟨g, 0, none⟩) (k + 1) cap))
          have T2 := Lib.hid (ownsRow_setCell_other (a := ⟨Z1, 1, none⟩) O5.out (fun e => by have e2 : g = Z1 := (by simpa [Value.ownBlock] using e); omega) (.slice (some ⟨g, 0, none⟩) (k + 1) cap))
          have T3 := Lib.hid ((((J.out.alloc (.cells #[.int .u64 ky, .int .u64 vl] 123)).drew).grown G5.out (fun j hj hl => by have := (OW.out.lt j hj).1; omega)).setCell (p := ⟨Z1, 1, none⟩) (fun hl => by dsimp only at hl; omega) (.slice (some ⟨g, 0, none⟩) (k + 1) cap))
          have hsz5 : Bs ≤ w5.heap.size := by have := G5.out.size; simp at this; omega
          clear D1 E1 d1 f1 O5 G5
          go_wp2_with fail
          go_roundw
          case rel => exact ⟨k + 1, some ⟨g, 0, none⟩, cap, by omega, by go_num, T1.out, T0.out, by rw [hsn.out, List.flatMap_append]; simpa [prC] using T2.out, T3.out, by simp only [World.size_setCell]; exact hsz5⟩
          case measure => simp [intOf]; omega
        · go_simp
          refine (HN2.out _).mono ?_
          rintro e wq ⟨rfl, rfl⟩
          go_wp2_with fail
          refine hKc.out _ _ (by (try dsimp only); all_goals trivial) (fun hHeld => ?_)
          clear hKc Kc
          try simp only [List.getElem_toArray, List.getElem_cons_succ, List.getElem_cons_zero, Act.put, List.setIfInBounds_toArray, List.set_cons_zero, List.set_cons_succ]
          refine wpAnyH_take (i := 15) (v := ?_) rfl (by kernel_rfl) (by kernel_rfl) (by kernel_rfl) (fun _ _ _ h => h) (Or.inl ⟨by rfl, ?_⟩) (by assumption) ?_
          rotate_left
          · intro w hSw
            try dsimp only at hSw
            go_simp
            try with_reducible rfl
          try simp only [List.getElem_toArray, List.getElem_cons_succ, List.getElem_cons_zero, Act.put, List.setIfInBounds_toArray, List.set_cons_zero, List.set_cons_succ]
          refine wpAnyH_ready (rs := [1, 16]) (by kernel_rfl) (by simp) ?_
          refine AllReadyH.cons rfl (fun Kc hKc => ?_) (AllReadyH.cons rfl (fun Kc hKc => ?_) (AllReadyH.nil))
          · go_simp
            refine hKc.out _ _ (by (try dsimp only); all_goals trivial) (fun hHeld => ?_)
            clear hKc Kc
            try simp only [List.getElem_toArray, List.getElem_cons_succ, List.getElem_cons_zero, Act.put, List.setIfInBounds_toArray, List.set_cons_zero, List.set_cons_succ]
            refine wpAnyH_ready (rs := [16]) (by kernel_rfl) (by simp) ?_
            refine AllReadyH.cons rfl (fun Kc hKc => ?_) AllReadyH.nil
            go_simp
            refine hKc.out _ _ (by (try dsimp only); all_goals trivial) (fun hHeld => ?_)
            clear hKc Kc
            try simp only [List.getElem_toArray, List.getElem_cons_succ, List.getElem_cons_zero, Act.put, List.setIfInBounds_toArray, List.set_cons_zero, List.set_cons_succ]
            refine wpAnyH_ready (rs := [17]) (by kernel_rfl) (by simp) ?_
            refine AllReadyH.cons rfl (fun Kc hKc => ?_) AllReadyH.nil
            refine step_append_lies _ rfl (.tmp 30) (.tmp 45) 68 rfl Bs 123 i0 (.agg #[.int .u64 0, .int .u64 0]) 2 16 Tryz.underlying68 I0.out Z0i.out Z1i.out Z2i.out rfl (by decide) (.slice a k c) k _ (by simp [Act.eval, Act.put]) (own_drew (OW.out.alloc _)) ⟨wr.heap.size, 0, none⟩ 1 1 [.int .u64 ky, .int .u64 vl] (by simp [Act.eval, Act.put]) rfl (pr_new wr ky vl 123) (pr_cells ky vl) (by decide) (by unfold maxLen; omega) (by omega) (by simp; omega) (wr.heap.size + 1) (by simp) ?_
            intro g cap w5 hown5 hgrow hgb hgl
            have D1 := blk_grown ((XR.out.alloc (.cells #[.int .u64 ky, .int .u64 vl] 123)).drew) hgrow hne
            have E1 := blk_grown ((ZR.out.alloc (.cells #[.int .u64 ky, .int .u64 vl] 123)).drew) hgrow hne0
            have d1 := D1.at_ (i := 1) _ rfl
            have f1 := D1.free 1
            have O5 := Lib.hid hown5
            have G5 := Lib.hid hgrow
            have hgB : Bs ≤ g := (hown5.lt g rfl).1
            clear hown5 hgrow
            refine hKc.out _ _ (by (try dsimp only); all_goals trivial) (fun hHeld => ?_)
            clear hKc Kc
            try simp only [List.getElem_toArray, List.getElem_cons_succ, List.getElem_cons_zero, Act.put, List.setIfInBounds_toArray, List.set_cons_zero, List.set_cons_succ]
            refine wpAnyH_take (i := 18) (v := ?_) rfl (by kernel_rfl) (by kernel_rfl) (by kernel_rfl) (fun _ _ _ h => h) (Or.inl ⟨by rfl, ?_⟩) (by assumption) ?_
            rotate_left
            · intro w hSw
              try dsimp only at hSw
              go_simp
              try with_reducible rfl
            try simp only [List.getElem_toArray, List.getElem_cons_succ, List.getElem_cons_zero, Act.put, List.setIfInBounds_toArray, List.set_cons_zero, List.set_cons_succ]
            refine wpAnyH_ready (rs := [19]) (by kernel_rfl) (by simp) ?_
            refine AllReadyH.cons rfl (fun Kc hKc => ?_) AllReadyH.nil
            go_simp
            refine hKc.out _ _ (by (try dsimp only); all_goals trivial) (fun hHeld => ?_)
            clear hKc Kc
            try simp only [List.getElem_toArray, List.getElem_cons_succ, List.getElem_cons_zero, Act.put, List.setIfInBounds_toArray, List.set_cons_zero, List.set_cons_succ]
            refine wpAnyH_done (by kernel_rfl) ?_ _
            have T1 := Lib.hid (show Blk _ Z1 #[.int .i64 (b1.toNat : Int), .slice (some ⟨g, 0, none⟩) (k + 1) cap] from D1.set 1 (.slice (some ⟨g, 0, none⟩) (k + 1) cap))
            have T0 := Lib.hid (E1.set_far (p := ⟨Z1, 1, none⟩) (show Z1 ≠ w.heap.size by omega) (.slice (some ⟨g, 0, none⟩) (k + 1) cap))
            have T2 := Lib.hid (ownsRow_setCell_other (a := ⟨Z1, 1, none⟩) O5.out (fun e => by have e2 : g = Z1 := (by simpa [Value.ownBlock] using e); omega) (.slice (some ⟨g, 0, none⟩) (k + 1) cap))
            have T3 := Lib.hid ((((J.out.alloc (.cells #[.int .u64 ky, .int .u64 vl] 123)).drew).grown G5.out (fun j hj hl => by have := (OW.out.lt j hj).1; omega)).setCell (p := ⟨Z1, 1, none⟩) (fun hl => by dsimp only at hl; omega) (.slice (some ⟨g, 0, none⟩) (k + 1) cap))
            have hsz5 : Bs ≤ w5.heap.size := by have := G5.out.size; simp at this; omega
            clear D1 E1 d1 f1 O5 G5
            go_wp2_with fail
            go_roundw
            case rel => exact ⟨k + 1, some ⟨g, 0, none⟩, cap, by omega, by go_num, T1.out, T0.out, by rw [hsn.out, List.flatMap_append]; simpa [prC] using T2.out, T3.out, by simp only [World.size_setCell]; exact hsz5⟩
            case measure => simp [intOf]; omega
          · go_simp
            refine hKc.out _ _ (by (try dsimp only); all_goals trivial) (fun hHeld => ?_)
            clear hKc Kc
            try simp only [List.getElem_toArray, List.getElem_cons_succ, List.getElem_cons_zero, Act.put, List.setIfInBounds_toArray, List.set_cons_zero, List.set_cons_succ]
            refine wpAnyH_ready (rs := [1]) (by kernel_rfl) (by simp) ?_
            refine AllReadyH.cons rfl (fun Kc hKc => ?_) AllReadyH.nil
            go_simp
            refine hKc.out _ _ (by (try dsimp only); all_goals trivial) (fun hHeld => ?_)
            clear hKc Kc
            try simp only [List.getElem_toArray, List.getElem_cons_succ, List.getElem_cons_zero, Act.put, List.setIfInBounds_toArray, List.set_cons_zero, List.set_cons_succ]
            refine wpAnyH_ready (rs := [17]) (by kernel_rfl) (by simp) ?_
            refine AllReadyH.cons rfl (fun Kc hKc => ?_) AllReadyH.nil
            refine step_append_lies _ rfl (.tmp 30) (.tmp 45) 68 rfl Bs 123 i0 (.agg #[.int .u64 0, .int .u64 0]) 2 16 Tryz.underlying68 I0.out Z0i.out Z1i.out Z2i.out rfl (by decide) (.slice a k c) k _ (by simp [Act.eval, Act.put]) (own_drew (OW.out.alloc _)) ⟨wr.heap.size, 0, none⟩ 1 1 [.int .u64 ky, .int .u64 vl] (by simp [Act.eval, Act.put]) rfl (pr_new wr ky vl 123) (pr_cells ky vl) (by decide) (by unfold maxLen; omega) (by omega) (by simp; omega) (wr.heap.size + 1) (by simp) ?_
            intro g cap w5 hown5 hgrow hgb hgl
            have D1 := blk_grown ((XR.out.alloc (.cells #[.int .u64 ky, .int .u64 vl] 123)).drew) hgrow hne
            have E1 := blk_grown ((ZR.out.alloc (.cells #[.int .u64 ky, .int .u64 vl] 123)).drew) hgrow hne0
            have d1 := D1.at_ (i := 1) _ rfl
            have f1 := D1.free 1
            have O5 := Lib.hid hown5
            have G5 := Lib.hid hgrow
            have hgB : Bs ≤ g := (hown5.lt g rfl).1
            clear hown5 hgrow
            refine hKc.out _ _ (by (try dsimp only); all_goals trivial) (fun hHeld => ?_)
            clear hKc Kc
            try simp only [List.getElem_toArray, List.getElem_cons_succ, List.getElem_cons_zero, Act.put, List.setIfInBounds_toArray, List.set_cons_zero, List.set_cons_succ]
            refine wpAnyH_take (i := 18) (v := ?_) rfl (by kernel_rfl) (by kernel_rfl) (by kernel_rfl) (fun _ _ _ h => h) (Or.inl ⟨by rfl, ?_⟩) (by assumption) ?_
            rotate_left
            · intro w hSw
              try dsimp only at hSw
              go_simp
              try with_reducible rfl
            try simp only [List.getElem_toArray, List.getElem_cons_succ, List.getElem_cons_zero, Act.put, List.setIfInBounds_toArray, List.set_cons_zero, List.set_cons_succ]
            refine wpAnyH_ready (rs := [19]) (by kernel_rfl) (by simp) ?_
            refine AllReadyH.cons rfl (fun Kc hKc => ?_) AllReadyH.nil
            go_simp
            refine hKc.out _ _ (by (try dsimp only); all_goals trivial) (fun hHeld => ?_)
            clear hKc Kc
            try simp only [List.getElem_toArray, List.getElem_cons_succ, List.getElem_cons_zero, Act.put, List.setIfInBounds_toArray, List.set_cons_zero, List.set_cons_succ]
            refine wpAnyH_done (by kernel_rfl) ?_ _
            have T1 := Lib.hid (show Blk _ Z1 #[.int .i64 (b1.toNat : Int), .slice (some ⟨g, 0, none⟩) (k + 1) cap] from D1.set 1 (.slice (some ⟨g, 0, none⟩) (k + 1) cap))
            have T0 := Lib.hid (E1.set_far (p := ⟨Z1, 1, none⟩) (show Z1 ≠ w.heap.size by omega) (.slice (some ⟨g, 0, none⟩) (k + 1) cap))
            have T2 := Lib.hid (ownsRow_setCell_other (a := ⟨Z1, 1, none⟩) O5.out (fun e => by have e2 : g = Z1 := (by simpa [Value.ownBlock] using e); omega) (.slice (some ⟨g, 0, none⟩) (k + 1) cap))
            have T3 := Lib.hid ((((J.out.alloc (.cells #[.int .u64 ky, .int .u64 vl] 123)).drew).grown G5.out (fun j hj hl => by have := (OW.out.lt j hj).1; omega)).setCell (p := ⟨Z1, 1, none⟩) (fun hl => by dsimp only at hl; omega) (.slice (some ⟨g, 0, none⟩) (k + 1) cap))
            have hsz5 : Bs ≤ w5.heap.size := by have := G5.out.size; simp at this; omega
            clear D1 E1 d1 f1 O5 G5
            go_wp2_with fail
            go_roundw
            case rel => exact ⟨k + 1, some ⟨g, 0, none⟩, cap, by omega, by go_num, T1.out, T0.out, by rw [hsn.out, List.flatMap_append]; simpa [prC] using T2.out, T3.out, by simp only [World.size_setCell]; exact hsz5⟩
            case measure => simp [intOf]; omega
    · obtain rfl : k = n := by omega
      have hlen := prsD_len l k
      have hown := OW.out
      rw [show k = (prsD l k).length from hlen.symm] at hown
      rw [hlen] at hown
      have hown2 : wr.ownsRow Bs 123 2 (.slice a (prsD l k).length c) (prsD l k).length ((prsD l k).flatMap prC) := by rw [hlen]; exact OW.out
      obtain ⟨a', c', hv, hPr⟩ := prs_own hown2
      simp only [Value.slice.injEq] at hv
      obtain ⟨rfl, -, rfl⟩ := hv
      have HPr := Lib.hid hPr
      have HFr := Lib.hid (fun (b o : Nat) (q : a = some ⟨b, o, none⟩) => (show w.heap.size < b from by have := (OW.out.lt b (by rw [q]; rfl)).1; omega))
      have HGd := Lib.hid (rgood5_any (b1.toNat : Int) a c (prsD l k) wr (by rw [hlen]; omega) hPr)
      have HBy := Lib.hid (fun (hg : goodL (b1.toNat : Int) (prsD l k) = true) w' (M : Same wr w') => rbytes5_any (b1.toNat : Int) a c (prsD l k) hg (prsD_u64 l k) w' (HPr.out.same M))
      unfold RLeaf readLD at HRR
      rw [HLV.out, HNN.out] at HRR
      have HLn := Lib.hid hlen
      rw [hlen] at HGd HBy
      clear hown hown2 hlen hPr OW hne hne0
      generalize prsD l k = PD at *
      have x0 := XR.out.at_ (i := 0) _ rfl
      have x1 := XR.out.at_ (i := 1) _ rfl
      have c1 : decide ((k : Int) < (b2.toNat : Int)) = decide (k < b2.toNat) := by simp
      have hkk : ¬ (k < b2.toNat ∧ k < 15) := by rcases hnc with q | q <;> omega
      clear hnc
      have z0 := ZR.out.at_ (i := 0) _ rfl
      have z1 := ZR.out.at_ (i := 1) _ rfl
      have y0 := ZR.out.free 0
      have y1 := ZR.out.free 1
      have hc2 : (k < b2.toNat) = False ∨ ((k < b2.toNat) = True ∧ (k < 15) = False) := by
        by_cases q : k < b2.toNat
        · exact .inr ⟨eq_true q, eq_false (fun r => hkk ⟨q, r⟩)⟩
        · exact .inl (eq_false q)
      clear c1
      rcases hc2 with hq | ⟨hq, hq2⟩
      · have d1 : decide ((k : Int) < (b2.toNat : Int)) = false := decide_eq_false (by have := of_eq_false hq; omega)
        have d1n : decide (k < b2.toNat) = false := decide_eq_false (of_eq_false hq)
        have d1p : ¬ k < b2.toNat := of_eq_false hq
        clear hq hkk
        go_wp2_with fail
        refine HGd.out.mono ?_
        rintro e w7 ⟨rfl, M⟩
        have X7 := Lib.hid (XR.out.mod M (fun q => q))
        have Z7 := Lib.hid (ZR.out.mod M (fun q => q))
        have M7 := Lib.hid (J.out.same M)
        have P7 := Lib.hid (HPr.out.same M)
        have S7 := Lib.hid M
        clear M HGd x0 x1 z0 z1 y0 y1
        cases hg : goodL (b1.toNat : Int) PD with
        | false =>
          have HR := Lib.hid HRR.out.out
          rw [if_neg (by rw [hg]; simp)] at HR
          dsimp only at HR
          have qz0 := Z7.out.at_ (i := 0) _ rfl
          have qz1 := Z7.out.at_ (i := 1) _ rfl
          have qf0 := Z7.out.free 0
          have qf1 := Z7.out.free 1
          have YF := Lib.hid (two_set Z7.out (.int .i64 0) (.slice none 0 0))
          have NF := Lib.hid (M7.out.then_ (two_mod _ w.heap.size (.int .i64 0) (.slice none 0 0)) (fun i hi q => by omega))
          skip
          go_wp2_with fail
          generalize World.setCell _ _ _ = wF at *
          have rr0 := YF.out.at_ (i := 0) _ rfl
          have rr1 := YF.out.at_ (i := 1) _ rfl
          exact bodyPost_ret (v := .tuple #[.agg #[.int .i64 0, .slice none 0 0], .bool false]) (by simp [results, Tryz.results40, go_sem, rr0, rr1]) rfl (HR.out _ _ ⟨rfl, NF.out⟩)
        | true =>
          have x70 := X7.out.at_ (i := 0) _ rfl
          have x71 := X7.out.at_ (i := 1) _ rfl
          have HB := Lib.hid (HBy.out hg w7 S7.out)
          unfold strV at HB
          go_wp2_with fail
          refine HB.out.mono ?_
          rintro e w8 ⟨rfl, M⟩
          have X8 := Lib.hid (X7.out.mod M (fun q => q))
          have Z8 := Lib.hid (Z7.out.mod M (fun q => q))
          have M8 := Lib.hid (M7.out.same M)
          have P8 := Lib.hid (P7.out.same M)
          clear M X7 Z7 M7 P7 S7 HB HBy x70 x71
          by_cases hq : leafB (b1.toNat : Int) PD = l
          · have HR := Lib.hid HRR.out.out
            rw [if_pos ⟨hg, hq⟩] at HR
            dsimp only at HR
            rw [hq]
            clear hq
            have x80 := X8.out.at_ (i := 0) _ rfl
            have x81 := X8.out.at_ (i := 1) _ rfl
            have qz0 := Z8.out.at_ (i := 0) _ rfl
            have qz1 := Z8.out.at_ (i := 1) _ rfl
            have qf0 := Z8.out.free 0
            have qf1 := Z8.out.free 1
            have YF := Lib.hid (two_set Z8.out (.int .i64 (b1.toNat : Int)) (.slice a k c))
            have NF := Lib.hid (M8.out.then_ (two_mod _ w.heap.size (.int .i64 (b1.toNat : Int)) (.slice a k c)) (fun i hi q => by omega))
            have PF := Lib.hid (prs_mod P8.out (two_mod _ w.heap.size (.int .i64 (b1.toNat : Int)) (.slice a k c)) (fun b o q => HFr.out b o q))
            go_wp2_with fail
            generalize World.setCell _ _ _ = wF at *
            have rr0 := YF.out.at_ (i := 0) _ rfl
            have rr1 := YF.out.at_ (i := 1) _ rfl
            exact bodyPost_ret (v := .tuple #[.agg #[.int .i64 (b1.toNat : Int), .slice a k c], .bool true]) (by simp [results, Tryz.results40, go_sem, rr0, rr1]) rfl (HR.out _ _ ⟨⟨a, c, by rw [HLn.out], PF.out, HFr.out⟩, NF.out⟩)
          · have HR := Lib.hid HRR.out.out
            rw [if_neg (fun q => hq q.2)] at HR
            dsimp only at HR
            generalize leafB (b1.toNat : Int) PD = lB at *
            have hn1 : (lB == l) = false := beq_eq_false_iff_ne.2 hq
            clear hq
            have qz0 := Z8.out.at_ (i := 0) _ rfl
            have qz1 := Z8.out.at_ (i := 1) _ rfl
            have qf0 := Z8.out.free 0
            have qf1 := Z8.out.free 1
            have YF := Lib.hid (two_set Z8.out (.int .i64 0) (.slice none 0 0))
            have NF := Lib.hid (M8.out.then_ (two_mod _ w.heap.size (.int .i64 0) (.slice none 0 0)) (fun i hi q => by omega))
            skip
            go_wp2_with fail
            generalize World.setCell _ _ _ = wF at *
            have rr0 := YF.out.at_ (i := 0) _ rfl
            have rr1 := YF.out.at_ (i := 1) _ rfl
            exact bodyPost_ret (v := .tuple #[.agg #[.int .i64 0, .slice none 0 0], .bool false]) (by simp [results, Tryz.results40, go_sem, rr0, rr1]) rfl (HR.out _ _ ⟨rfl, NF.out⟩)
      · have d1 : decide ((k : Int) < (b2.toNat : Int)) = true := decide_eq_true (by have := of_eq_true hq; omega)
        have d2 : decide ((k : Int) < 15) = false := decide_eq_false (by have := of_eq_false hq2; omega)
        have d1n : decide (k < b2.toNat) = true := decide_eq_true (of_eq_true hq)
        have d2n : decide (k < 15) = false := decide_eq_false (of_eq_false hq2)
        have d1p : k < b2.toNat := of_eq_true hq
        have d2p : ¬ k < 15 := of_eq_false hq2
        clear hq hq2 hkk
        go_wp2_with fail
        refine HGd.out.mono ?_
        rintro e w7 ⟨rfl, M⟩
        have X7 := Lib.hid (XR.out.mod M (fun q => q))
        have Z7 := Lib.hid (ZR.out.mod M (fun q => q))
        have M7 := Lib.hid (J.out.same M)
        have P7 := Lib.hid (HPr.out.same M)
        have S7 := Lib.hid M
        clear M HGd x0 x1 z0 z1 y0 y1
        cases hg : goodL (b1.toNat : Int) PD with
        | false =>
          have HR := Lib.hid HRR.out.out
          rw [if_neg (by rw [hg]; simp)] at HR
          dsimp only at HR
          have qz0 := Z7.out.at_ (i := 0) _ rfl
          have qz1 := Z7.out.at_ (i := 1) _ rfl
          have qf0 := Z7.out.free 0
          have qf1 := Z7.out.free 1
          have YF := Lib.hid (two_set Z7.out (.int .i64 0) (.slice none 0 0))
          have NF := Lib.hid (M7.out.then_ (two_mod _ w.heap.size (.int .i64 0) (.slice none 0 0)) (fun i hi q => by omega))
          skip
          go_wp2_with fail
          generalize World.setCell _ _ _ = wF at *
          have rr0 := YF.out.at_ (i := 0) _ rfl
          have rr1 := YF.out.at_ (i := 1) _ rfl
          exact bodyPost_ret (v := .tuple #[.agg #[.int .i64 0, .slice none 0 0], .bool false]) (by simp [results, Tryz.results40, go_sem, rr0, rr1]) rfl (HR.out _ _ ⟨rfl, NF.out⟩)
        | true =>
          have x70 := X7.out.at_ (i := 0) _ rfl
          have x71 := X7.out.at_ (i := 1) _ rfl
          have HB := Lib.hid (HBy.out hg w7 S7.out)
          unfold strV at HB
          go_wp2_with fail
          refine HB.out.mono ?_
          rintro e w8 ⟨rfl, M⟩
          have X8 := Lib.hid (X7.out.mod M (fun q => q))
          have Z8 := Lib.hid (Z7.out.mod M (fun q => q))
          have M8 := Lib.hid (M7.out.same M)
          have P8 := Lib.hid (P7.out.same M)
          clear M X7 Z7 M7 P7 S7 HB HBy x70 x71
          by_cases hq : leafB (b1.toNat : Int) PD = l
          · have HR := Lib.hid HRR.out.out
            rw [if_pos ⟨hg, hq⟩] at HR
            dsimp only at HR
            rw [hq]
            clear hq
            have x80 := X8.out.at_ (i := 0) _ rfl
            have x81 := X8.out.at_ (i := 1) _ rfl
            have qz0 := Z8.out.at_ (i := 0) _ rfl
            have qz1 := Z8.out.at_ (i := 1) _ rfl
            have qf0 := Z8.out.free 0
            have qf1 := Z8.out.free 1
            have YF := Lib.hid (two_set Z8.out (.int .i64 (b1.toNat : Int)) (.slice a k c))
            have NF := Lib.hid (M8.out.then_ (two_mod _ w.heap.size (.int .i64 (b1.toNat : Int)) (.slice a k c)) (fun i hi q => by omega))
            have PF := Lib.hid (prs_mod P8.out (two_mod _ w.heap.size (.int .i64 (b1.toNat : Int)) (.slice a k c)) (fun b o q => HFr.out b o q))
            go_wp2_with fail
            generalize World.setCell _ _ _ = wF at *
            have rr0 := YF.out.at_ (i := 0) _ rfl
            have rr1 := YF.out.at_ (i := 1) _ rfl
            exact bodyPost_ret (v := .tuple #[.agg #[.int .i64 (b1.toNat : Int), .slice a k c], .bool true]) (by simp [results, Tryz.results40, go_sem, rr0, rr1]) rfl (HR.out _ _ ⟨⟨a, c, by rw [HLn.out], PF.out, HFr.out⟩, NF.out⟩)
          · have HR := Lib.hid HRR.out.out
            rw [if_neg (fun q => hq q.2)] at HR
            dsimp only at HR
            generalize leafB (b1.toNat : Int) PD = lB at *
            have hn1 : (lB == l) = false := beq_eq_false_iff_ne.2 hq
            clear hq
            have qz0 := Z8.out.at_ (i := 0) _ rfl
            have qz1 := Z8.out.at_ (i := 1) _ rfl
            have qf0 := Z8.out.free 0
            have qf1 := Z8.out.free 1
            have YF := Lib.hid (two_set Z8.out (.int .i64 0) (.slice none 0 0))
            have NF := Lib.hid (M8.out.then_ (two_mod _ w.heap.size (.int .i64 0) (.slice none 0 0)) (fun i hi q => by omega))
            skip
            go_wp2_with fail
            generalize World.setCell _ _ _ = wF at *
            have rr0 := YF.out.at_ (i := 0) _ rfl
            have rr1 := YF.out.at_ (i := 1) _ rfl
            exact bodyPost_ret (v := .tuple #[.agg #[.int .i64 0, .slice none 0 0], .bool false]) (by simp [results, Tryz.results40, go_sem, rr0, rr1]) rfl (HR.out _ _ ⟨rfl, NF.out⟩)
end Go.Proofs.YtjkndfenniongaaGreatDoor
set_option maxRecDepth 100000
/- The two readings of a node are one. -/
namespace Go.Proofs.YtjkndfenniongaaGreatDoor
open Go Go.RowKit
theorem pairsB_prsK (u : List UInt8) : ∀ k, 16 * k ≤ u.length → pairsB (prsK u k) = u.take (16 * k)
  | 0, _ => by simp [prsK, pairsB]
  | k + 1, h => by
    have ih := pairsB_prsK u k (by omega)
    have e : prsK u (k + 1) = prsK u k ++ [prK u k] := by unfold prsK; rw [List.range_succ, List.map_append]; rfl
    rw [e]
    unfold pairsB at ih ⊢
    rw [List.flatMap_append, ih]
    unfold prK
    simp only [List.flatMap_cons, List.flatMap_nil, List.append_nil]
    rw [leB_leV ((u.drop (16 * k)).take 8) 8 (by simp; omega), leB_leV ((u.drop (16 * k + 8)).take 8) 8 (by simp; omega), show 16 * (k + 1) = 16 * k + 8 + 8 by omega, List.take_add, List.take_add, List.append_assoc]
theorem prsD_prsK (l : List UInt8) (hl : l.length = 256) (k : Nat) (hk : k ≤ 15) : prsD l k = prsK ((l.take 252).drop 4) k := by
  unfold prsD prsK
  apply List.map_congr_left
  intro i hi
  have := List.mem_range.1 hi
  unfold prD prK
  simp only [List.drop_take, List.drop_drop, List.take_take]
  congr 2
  · rw [show min 8 (252 - 4 - 16 * i) = 8 by omega]
  · rw [show min 8 (252 - 4 - (16 * i + 8)) = 8 by omega, show 4 + (16 * i + 8) = 4 + 16 * i + 8 by omega]
theorem leV_byte (l : List UInt8) (i : Nat) (h : i < l.length) : leV ((l.drop i).take 1) = ((l.getD i 0).toNat : Int) := by
  rw [List.drop_eq_getElem_cons h, List.getD_eq_getElem?_getD, List.getElem?_eq_getElem h, List.take_succ_cons, List.take_zero]
  simp [leV]
theorem getD_take (l : List UInt8) (n i : Nat) (h : i < n) : (l.take n).getD i 0 = l.getD i 0 := by
  rw [List.getD_eq_getElem?_getD, List.getD_eq_getElem?_getD, List.getElem?_take, if_pos h]
theorem all_zero (r : List UInt8) (h : (r.all fun x => x == 0) = true) : r = List.replicate r.length 0 := by
  apply List.eq_replicate_iff.2
  refine ⟨rfl, fun b hb => ?_⟩
  have := List.all_eq_true.1 h b hb
  simpa using this
theorem leB_one (x : UInt8) : leB (x.toNat : Int) 1 = [x] := by
  have := leB_leV [x] 1 rfl
  rwa [show leV [x] = (x.toNat : Int) by simp [leV]] at this
theorem leaf_core (x0 x1 x2 x3 : UInt8) (u : List UInt8) (hu : u.length = 248) (n : Nat) (hn : n = min x2.toNat 15) : ([76] ++ leB (x1.toNat : Int) 1 ++ leB (n : Int) 1 ++ [0] ++ u.take (16 * n) ++ List.replicate (248 - 16 * n) 0 = x0 :: x1 :: x2 :: x3 :: u) ↔ ((u.drop (16 * n)).all (fun x => x == 0) = true ∧ x3.toNat = 0 ∧ x0.toNat = 76 ∧ x2.toNat ≤ 15) := by
  obtain ⟨v, hv, hB⟩ := byte_of (n : Int) (by omega)
  rw [leB_one, hB]
  simp only [List.cons_append, List.nil_append, List.cons.injEq, true_and]
  constructor
  · rintro ⟨h0, h2, h3, h4⟩
    refine ⟨?_, by rw [← h3]; rfl, by rw [← h0]; rfl, by rw [← h2]; omega⟩
    have h5 := congrArg (List.drop (16 * n)) h4
    rw [List.drop_left' (by simp; omega)] at h5
    rw [← h5]
    simp
  · rintro ⟨h1, h3, h0, h2⟩
    refine ⟨UInt8.toNat_inj.1 (by rw [h0]; rfl), UInt8.toNat_inj.1 (by omega), UInt8.toNat_inj.1 (by rw [h3]; rfl), ?_⟩
    have hz := all_zero _ h1
    rw [List.length_drop, hu] at hz
    rw [← hz, List.take_append_drop]
theorem four_cons (t : List UInt8) (h : 4 ≤ t.length) : ∃ x0 x1 x2 x3 u, t = x0 :: x1 :: x2 :: x3 :: u := by
  match t, h with
  | x0 :: x1 :: x2 :: x3 :: u, _ => exact ⟨x0, x1, x2, x3, u, rfl⟩
theorem leaf_same (l : List UInt8) (hl : l.length = 256) : readLD l = leafP l := by
  have ho : openL l = if sealL (l.take 252) = l then some (l.take 252) else none := by
    unfold openL
    rw [hl, if_neg (by omega)]
  have ht : (l.take 252).length = 252 := by simp; omega
  have q1 := getD_take l 252 1 (by omega)
  have q2 := getD_take l 252 2 (by omega)
  have hpd := fun k hk => prsD_prsK l hl k hk
  obtain ⟨t, hte⟩ : ∃ t, l.take 252 = t := ⟨_, rfl⟩
  have HTE := hte
  rw [hte] at ho ht q1 q2 hpd
  obtain ⟨x0, x1, x2, x3, u, rfl⟩ := four_cons t (by omega)
  have hu : u.length = 248 := by simpa using ht
  have e1 : lvD l = (x1.toNat : Int) := by unfold lvD; rw [← q1]; rfl
  have e2 : nD l = min x2.toNat 15 := by unfold nD; rw [← q2]; rfl
  obtain ⟨n, hn⟩ : ∃ n, nD l = n := ⟨_, rfl⟩
  rw [hn] at e2
  have hpb : pairsB (prsK u n) = u.take (16 * n) := pairsB_prsK _ _ (by omega)
  have hL : prsD l n = prsK u n := hpd n (by omega)
  have hplen : (prsK u n).length = n := by unfold prsK; simp
  have core := leaf_core x0 x1 x2 x3 u hu n e2
  have hbody : leaf0 (x1.toNat : Int) (prsK u n) ++ List.replicate (248 - 16 * (prsK u n).length) 0 = [76] ++ leB (x1.toNat : Int) 1 ++ leB (n : Int) 1 ++ [0] ++ u.take (16 * n) ++ List.replicate (248 - 16 * n) 0 := by
    unfold leaf0
    rw [hplen, hpb, show leB 76 1 = [76] by decide, show leB 0 1 = [0] by decide]
  have blen : ([76] ++ leB (x1.toNat : Int) 1 ++ leB (n : Int) 1 ++ [0] ++ u.take (16 * n) ++ List.replicate (248 - 16 * n) (0 : UInt8)).length = 252 := by
    simp only [List.length_append, leB_len, List.length_take, List.length_replicate, List.length_cons, List.length_nil]
    omega
  have hleaf : lfL (x0 :: x1 :: x2 :: x3 :: u) = prsK u n := by
    unfold lfL
    have : min (leV ((List.drop 2 (x0 :: x1 :: x2 :: x3 :: u)).take 1)).toNat 15 = n := by
      rw [e2]
      simp [leV]
    rw [this]; rfl
  unfold readLD leafP
  rw [ho, hn, e1, hL]
  have hok : ∀ (hg : goodL (x1.toNat : Int) (prsK u n) = true), (lfOk (leV (List.take 1 (x0 :: x1 :: x2 :: x3 :: u))) (leV (List.take 1 (List.drop 1 (x0 :: x1 :: x2 :: x3 :: u)))) (leV (List.take 1 (List.drop 2 (x0 :: x1 :: x2 :: x3 :: u)))) (leV (List.take 1 (List.drop 3 (x0 :: x1 :: x2 :: x3 :: u)))) (List.drop (16 * min (leV (List.take 1 (List.drop 2 (x0 :: x1 :: x2 :: x3 :: u)))).toNat 15) (List.drop 4 (x0 :: x1 :: x2 :: x3 :: u))) (lfL (x0 :: x1 :: x2 :: x3 :: u)) = true ↔ ((u.drop (16 * n)).all (fun x => x == 0) = true ∧ x3.toNat = 0 ∧ x0.toNat = 76 ∧ x2.toNat ≤ 15)) := fun hg => by
    have m2 : min (leV (List.take 1 (List.drop 2 (x0 :: x1 :: x2 :: x3 :: u)))).toNat 15 = n := by
      rw [e2]; simp [leV]
    rw [m2, hleaf]
    unfold lfOk
    simp only [Bool.and_eq_true, decide_eq_true_eq]
    have z0 : leV (List.take 1 (x0 :: x1 :: x2 :: x3 :: u)) = (x0.toNat : Int) := by simp [leV]
    have z1 : leV (List.take 1 (List.drop 1 (x0 :: x1 :: x2 :: x3 :: u))) = (x1.toNat : Int) := by simp [leV]
    have z2 : leV (List.take 1 (List.drop 2 (x0 :: x1 :: x2 :: x3 :: u))) = (x2.toNat : Int) := by simp [leV]
    have z3 : leV (List.take 1 (List.drop 3 (x0 :: x1 :: x2 :: x3 :: u))) = (x3.toNat : Int) := by simp [leV]
    rw [z0, z1, z2, z3, show List.drop 4 (x0 :: x1 :: x2 :: x3 :: u) = u from rfl]
    constructor
    · rintro ⟨⟨h1, ⟨h2, h3⟩, h4⟩, _⟩
      exact ⟨h1, by omega, by omega, by omega⟩
    · rintro ⟨h1, h2, h3, h4⟩
      exact ⟨⟨h1, ⟨by omega, by omega⟩, by omega⟩, hg⟩
  have hlv : leV (List.take 1 (List.drop 1 (x0 :: x1 :: x2 :: x3 :: u))) = (x1.toNat : Int) := by simp [leV]
  have hdoc : leafB (x1.toNat : Int) (prsK u n) = l ↔ (sealL (x0 :: x1 :: x2 :: x3 :: u) = l ∧ [76] ++ leB (x1.toNat : Int) 1 ++ leB (n : Int) 1 ++ [0] ++ u.take (16 * n) ++ List.replicate (248 - 16 * n) 0 = x0 :: x1 :: x2 :: x3 :: u) := by
    unfold leafB
    rw [hbody]
    constructor
    · intro h
      have h3 := congrArg (List.take 252) h
      rw [HTE] at h3
      unfold sealL at h3
      rw [List.take_left' blen] at h3
      rw [h3] at h
      exact ⟨h, h3⟩
    · rintro ⟨h1, h2⟩
      rw [h2]; exact h1
  by_cases hs : sealL (x0 :: x1 :: x2 :: x3 :: u) = l
  · rw [if_pos hs]
    dsimp only
    by_cases hg : goodL (x1.toNat : Int) (prsK u n) = true
    · by_cases hc : ((u.drop (16 * n)).all (fun x => x == 0) = true ∧ x3.toNat = 0 ∧ x0.toNat = 76 ∧ x2.toNat ≤ 15)
      · rw [if_pos ⟨hg, hdoc.2 ⟨hs, core.2 hc⟩⟩, if_pos ((hok hg).2 hc), hlv, hleaf]
      · rw [if_neg (fun q => hc (core.1 (hdoc.1 q.2).2)), if_neg (fun q => hc ((hok hg).1 q))]
    · rw [if_neg (fun q => hg q.1), if_neg]
      unfold lfOk
      intro q
      simp only [Bool.and_eq_true] at q
      apply hg
      have := q.2
      rwa [hleaf, hlv] at this
  · rw [if_neg hs]
    dsimp only
    rw [if_neg (fun q => hs (hdoc.1 q.2).1)]
end Go.Proofs.YtjkndfenniongaaGreatDoor
set_option maxRecDepth 100000
/- The document's nodes of an image. -/
namespace Go.Proofs.YtjkndfenniongaaGreatDoor
open Go Go.RowKit
def pageD (l : List UInt8) (p : Nat) : List UInt8 := (l.drop (256 * p)).take 256
def nodeD (l : List UInt8) (p : Nat) : Int × List (Int × Int) := match leafP (pageD l p) with
  | none => (-1, [])
  | some q => q
/-- Nodes in memory. -/
def Nds (w : World) (a : Option Addr) (n : Nat) (f : Nat → Int × List (Int × Int)) : Prop := 0 < n → ∃ b o, a = some ⟨b, o, none⟩ ∧ b < w.heap.size ∧ ∀ i, i < n → ∃ va c, w.cell? ⟨b, o + i * 2, none⟩ = some (.int .i64 (f i).1) ∧ w.cell? ⟨b, o + i * 2 + 1, none⟩ = some (.slice va (f i).2.length c) ∧ Prs w va (f i).2
theorem Nds.same {w w' : World} {a : Option Addr} {n : Nat} {f : Nat → Int × List (Int × Int)} (h : Nds w a n f) (M : Same w w') : Nds w' a n f := by
  intro hp
  obtain ⟨b, o, ha, hb, hc⟩ := h hp
  refine ⟨b, o, ha, Nat.lt_of_lt_of_le hb M.size, fun i hi => ?_⟩
  obtain ⟨va, c, h1, h2, h3⟩ := hc i hi
  exact ⟨va, c, (M.cell hb (fun q => q) _).trans h1, (M.cell hb (fun q => q) _).trans h2, h3.same M⟩
def flN (V : Nat → Option Addr × Nat) (f : Nat → Int × List (Int × Int)) (k : Nat) : List Value := (List.range k).flatMap fun i => [.int .i64 (f i).1, .slice (V i).1 (f i).2.length (V i).2]
theorem flN_succ (V : Nat → Option Addr × Nat) (f : Nat → Int × List (Int × Int)) (k : Nat) : flN V f (k + 1) = flN V f k ++ [.int .i64 (f k).1, .slice (V k).1 (f k).2.length (V k).2] := by
  unfold flN; rw [List.range_succ, List.flatMap_append]; simp
theorem flN_upd (V : Nat → Option Addr × Nat) (f : Nat → Int × List (Int × Int)) (k : Nat) (v : Option Addr × Nat) : flN (upd V k v) f k = flN V f k := by
  unfold flN
  have : ∀ (L : List Nat), (∀ i ∈ L, i < k) → L.flatMap (fun i => [Value.int .i64 (f i).1, .slice (upd V k v i).1 (f i).2.length (upd V k v i).2]) = L.flatMap fun i => [Value.int .i64 (f i).1, .slice (V i).1 (f i).2.length (V i).2] := by
    intro L
    induction L with
    | nil => intro _; rfl
    | cons x L ih =>
      intro h
      rw [List.flatMap_cons, List.flatMap_cons, ih (fun i hi => h i (by simp [hi]))]
      have hx := h x (by simp)
      unfold upd
      rw [if_neg (by omega)]
  exact this _ (fun i hi => List.mem_range.1 hi)
theorem flN_len (V : Nat → Option Addr × Nat) (f : Nat → Int × List (Int × Int)) : ∀ k, (flN V f k).length = k * 2
  | 0 => rfl
  | k + 1 => by rw [flN_succ, List.length_append, flN_len V f k]; simp; omega
theorem flN_get (V : Nat → Option Addr × Nat) (f : Nat → Int × List (Int × Int)) (i : Nat) : ∀ k, i < k → (flN V f k)[i * 2]? = some (.int .i64 (f i).1) ∧ (flN V f k)[i * 2 + 1]? = some (.slice (V i).1 (f i).2.length (V i).2)
  | 0, h => by omega
  | k + 1, h => by
    rw [flN_succ]
    have hl := flN_len V f k
    by_cases q : i < k
    · have ih := flN_get V f i k q
      rw [List.getElem?_append_left (by omega), List.getElem?_append_left (by omega)]
      exact ih
    · obtain rfl : i = k := by omega
      rw [List.getElem?_append_right (by omega), List.getElem?_append_right (by omega), hl, Nat.sub_self, show i * 2 + 1 - i * 2 = 1 by omega]
      exact ⟨rfl, rfl⟩
theorem nds_own {w : World} {base n : Nat} {ty : TypeId} {v : Value} {V : Nat → Option Addr × Nat} {f : Nat → Int × List (Int × Int)} (h : w.ownsRow base ty 2 v n (flN V f n)) (hp : ∀ i, i < n → Prs w (V i).1 (f i).2) : ∃ a c, v = .slice a n c ∧ Nds w a n f := by
  by_cases hn : 0 < n
  · obtain ⟨g, cap, hv, hb, hc, hr⟩ := RowV.of_owns h hn
    refine ⟨some ⟨g, 0, none⟩, cap, hv, fun _ => ⟨g, 0, rfl, hr.lt, fun i hi => ⟨(V i).1, (V i).2, ?_, ?_, hp i hi⟩⟩⟩
    · rw [Nat.zero_add]
      refine (hr.cell (i * 2) (by omega)).trans ?_
      rw [List.getD_eq_getElem?_getD, (flN_get V f i n hi).1]; rfl
    · rw [Nat.zero_add]
      refine (hr.cell (i * 2 + 1) (by omega)).trans ?_
      rw [List.getD_eq_getElem?_getD, (flN_get V f i n hi).2]; rfl
  · obtain ⟨a, c, hs⟩ := owns_slice h
    exact ⟨a, c, hs, fun q => absurd q hn⟩
theorem info75 : (Tryz.prog.info? 75).map (fun i => (i.zero, i.size, i.bytes)) = some (some (.agg #[.int .i64 0, .slice none 0 0]), 2, 32) := by kernel_rfl
theorem nd_new (w : World) (x : Int) (s : Value) (t : TypeId) : ∀ j u, ([.int .i64 x, s] : List Value)[j]? = some u → (w.alloc (.cells #[.int .i64 x, s] t)).cell? (Addr.add ⟨w.heap.size, 0, none⟩ j) = some u := by
  intro j u hu
  have hadd : (⟨w.heap.size, 0, none⟩ : Addr).add j = ⟨w.heap.size, j, none⟩ := by unfold Addr.add; split <;> simp_all
  rw [hadd]
  refine ((Blk.new w _ t).cell j).trans ?_
  match j, hu with
  | 0, hu => exact hu
  | 1, hu => exact hu
theorem nd_cells (x : Int) (a : Option Addr) (n c : Nat) : ∀ u ∈ ([.int .i64 x, .slice a n c] : List Value), u.oneCell' = true := fun u hu => by
  simp at hu
  rcases hu with rfl | rfl <;> rfl
theorem rread5_shape (l : List UInt8) (hl : l.length = 256) (w : World) : Calls Tryz.prog 40 #[strV l] w fun e w' => (∃ a c, e = .returned (match leafP l with | none => .tuple #[.agg #[.int .i64 0, .slice none 0 0], .bool false] | some (lv, L) => .tuple #[.agg #[.int .i64 lv, .slice a L.length c], .bool true]) ∧ (∀ lv L, leafP l = some (lv, L) → Prs w' a L ∧ ∀ b o, a = some ⟨b, o, none⟩ → w.heap.size < b)) ∧ Same w w' := by
  refine (rread5_any l hl w).mono ?_
  rintro e w' ⟨h, M⟩
  refine ⟨?_, M⟩
  unfold RLeaf at h
  rw [leaf_same l hl] at h
  cases hp : leafP l with
  | none => rw [hp] at h; exact ⟨none, 0, h, fun lv L q => by cases q⟩
  | some q =>
    obtain ⟨lv, L⟩ := q
    rw [hp] at h
    obtain ⟨a, c, he, h1, h2⟩ := h
    exact ⟨a, c, he, fun lv' L' q => by cases q; exact ⟨h1, h2⟩⟩
theorem Prs.mod2 {S : Nat → Prop} {w w' : World} {a : Option Addr} {L : List (Int × Int)} (h : Prs w a L) (M : Mod S w w') (hs : 0 < L.length → ∀ b o, a = some ⟨b, o, none⟩ → ¬ S b) : Prs w' a L := by
  intro hp
  obtain ⟨b, o, ha, hb, hc⟩ := h hp
  exact ⟨b, o, ha, Nat.lt_of_lt_of_le hb M.size, fun i p h1 => ⟨(M.cell hb (hs hp b o ha) _).trans (hc i p h1).1, (M.cell hb (hs hp b o ha) _).trans (hc i p h1).2⟩⟩
/-- One more node. -/
theorem nds_step {w0 wr w4 w6 : World} {vo : Value} {k g cap c : Nat} {a : Option Addr} {V : Nat → Option Addr × Nat} {f : Nat → Int × List (Int × Int)} {x : Int} {L : List (Int × Int)} (hf : f k = (x, L)) (J : Same w0 wr) (OW : wr.ownsRow w0.heap.size 75 2 vo k (flN V f k)) (PR : ∀ i, i < k → Prs wr (V i).1 (f i).2) (NE : ∀ i b o, i < k → 0 < (f i).2.length → (V i).1 = some ⟨b, o, none⟩ → vo.ownBlock ≠ some b)
    (M4 : Same wr w4) (hP : Prs w4 a L) (hfr : 0 < L.length → ∀ b o, a = some ⟨b, o, none⟩ → wr.heap.size < b) (hown : w6.ownsRow w0.heap.size 75 2 (.slice (some ⟨g, 0, none⟩) (k + 1) cap) (k + 1) (flN V f k ++ [.int .i64 x, .slice a L.length c])) (hgrow : w4.grownBy w6 vo.ownBlock) (hgb : vo.ownBlock = some g ∨ g = w4.heap.size) :
    w6.ownsRow w0.heap.size 75 2 (.slice (some ⟨g, 0, none⟩) (k + 1) cap) (k + 1) (flN (upd V k (a, c)) f (k + 1)) ∧ (∀ i, i < k + 1 → Prs w6 (upd V k (a, c) i).1 (f i).2) ∧ (∀ i b o, i < k + 1 → 0 < (f i).2.length → (upd V k (a, c) i).1 = some ⟨b, o, none⟩ → (Value.slice (some ⟨g, 0, none⟩) (k + 1) cap).ownBlock ≠ some b) ∧ Same w0 w6 := by
  have M6 : Mod (fun i => vo.ownBlock = some i) wr w6 := (M4.mono (fun _ _ q => q.elim)).grown hgrow (fun j hj _ => hj)
  have M46 : Mod (fun i => vo.ownBlock = some i) w4 w6 := (Mod.refl _ w4).grown hgrow (fun j hj _ => hj)
  have hfa : ∀ b o, 0 < L.length → a = some ⟨b, o, none⟩ → vo.ownBlock ≠ some b := fun b o h1 h2 e => by
    have := (OW.lt b e).2
    have := hfr h1 b o h2
    omega
  refine ⟨?_, fun i hi => ?_, fun i b o hi h0 he => ?_, J.then_ M6 (fun i hi q => by have := (OW.lt i q).1; omega)⟩
  · rw [flN_succ, flN_upd]
    unfold upd
    rw [if_pos rfl, hf]
    exact hown
  · unfold upd
    by_cases q : i = k
    · rw [if_pos q, q, hf]
      exact hP.mod2 M46 (fun h0 b o e => hfa b o h0 e)
    · rw [if_neg q]
      exact (PR i (by omega)).mod2 M6 (fun h0 b o e => NE i b o (by omega) h0 e)
  · unfold upd at he
    have hlt : b < w4.heap.size ∧ vo.ownBlock ≠ some b := by
      by_cases q : i = k
      · rw [if_pos q] at he
        rw [q, hf] at h0
        obtain ⟨b', o', e', hb', _⟩ := hP h0
        have e2 : a = some ⟨b, o, none⟩ := he
        rw [e2] at e'
        cases e'
        exact ⟨hb', hfa b o h0 e2⟩
      · rw [if_neg q] at he
        obtain ⟨b', o', e', hb', _⟩ := PR i (by omega) h0
        rw [he] at e'
        cases e'
        exact ⟨Nat.lt_of_lt_of_le hb' M4.size, NE i b o (by omega) h0 he⟩
    intro e
    have e2 : g = b := by simpa [Value.ownBlock] using e
    subst e2
    rcases hgb with q | q
    · exact hlt.2 q
    · omega
set_option maxHeartbeats 16000000 in
theorem nodes_any (l : List UInt8) (hl : l.length ≤ 32768) (w : World) : Calls Tryz.prog 21 #[strV l] w fun e w' => (∃ a c, e = .returned (.slice a (min (l.length / 256) 512 - 1) c) ∧ Nds w' a (min (l.length / 256) 512 - 1) (fun i => nodeD l (i + 1))) ∧ Same w w' := by
  refine opq fun R HR => ?_
  unfold strV
  obtain ⟨np, hnp⟩ : ∃ z, min (l.length / 256) 512 = z := ⟨_, rfl⟩
  have hls : (⟨l.toArray⟩ : ByteArray).size = l.length := bytes_size l
  have HNP := Lib.hid hnp
  have h512 : np ≤ 512 := by omega
  have hpl : 256 * np ≤ l.length := by omega
  rw [hnp] at HR
  obtain ⟨ll, hll⟩ : ∃ z, l.length = z := ⟨_, rfl⟩
  have HLL := Lib.hid hll
  rw [hll] at hls hl hpl
  have hdq : ((ll : Int)).tdiv 256 = ((ll / 256 : Nat) : Int) := by
    rw [Int.tdiv_eq_ediv_of_nonneg (by omega)]; rfl
  have hmn : min ((ll / 256 : Nat) : Int) 512 = (np : Int) := by rw [← hnp, hll]; omega
  obtain ⟨i0, hi, hz0, hz1, hz2⟩ := info_parts info75
  have I0 := Lib.hid hi
  have Z0 := Lib.hid hz0
  have Z1 := Lib.hid hz1
  have Z2 := Lib.hid hz2
  have O0 := Lib.hid (empty_owns w w.heap.size 2 75 (Nat.le_refl _))
  have M0 := Lib.hid (show Same w (w.alloc (.cells #[] 75)) from (Mod.refl _ _).alloc _)
  clear hi hz0 hz1 hz2 hnp hll
  go_enter Tryz.func21, Tryz.ntmps21
  go_wp2_with fail
  generalize w.alloc _ = W at *
  go_loopw [3, 4] (fun vo vi wr => ∃ (k : Nat) (V : Nat → Option Addr × Nat), k ≤ np - 1 ∧ vi = .int .i64 ((k + 1 : Nat) : Int) ∧ wr.ownsRow w.heap.size 75 2 vo k (flN V (fun i => nodeD l (i + 1)) k) ∧ (∀ i, i < k → Prs wr (V i).1 (nodeD l (i + 1)).2) ∧ (∀ i b o, i < k → 0 < (nodeD l (i + 1)).2.length → (V i).1 = some ⟨b, o, none⟩ → vo.ownBlock ≠ some b) ∧ Same w wr) (fun _ vi _ => np - (intOf vi).toNat)
  case atStart => exact ⟨0, fun _ => (none, 0), by omega, rfl, O0.out, fun i h => by omega, fun i b o h => by omega, M0.out⟩
  case round =>
    obtain ⟨k, V, hk, rfl, ho, hpr, hne, M⟩ := hrel
    have OW := Lib.hid ho
    have PR := Lib.hid hpr
    have NE := Lib.hid hne
    have J := Lib.hid M
    have hwr : w.heap.size ≤ wr.heap.size := M.size
    clear ho hpr hne M
    by_cases hlt : k + 1 < np
    · have hpg : (pageD l (k + 1)).length = 256 := by unfold pageD; rw [List.length_take, List.length_drop, HLL.out]; omega
      have hx : (⟨l.toArray⟩ : ByteArray).extract (256 * (k + 1)) (256 * (k + 1) + 256) = ⟨(pageD l (k + 1)).toArray⟩ := by
        rw [ext_bytes, show 256 * (k + 1) + 256 - 256 * (k + 1) = 256 by omega]; rfl
      have HRd := Lib.hid (fun w => rread5_shape (pageD l (k + 1)) hpg w)
      unfold strV at HRd
      have n1 : (256 * ((k : Int) + 1)).toNat = 256 * (k + 1) := by omega
      have n2 : (256 * ((k : Int) + 1) + 256).toNat = 256 * (k + 1) + 256 := by omega
      go_wp2_with fail
      refine (HRd.out _).mono ?_
      rintro e w4 ⟨⟨a, c, rfl, hpa⟩, M⟩
      clear HRd hx n1 n2
      cases hlf : leafP (pageD l (k + 1)) with
      | none =>
        have HF := Lib.hid (show (fun i => nodeD l (i + 1)) k = (-1, []) by dsimp only; unfold nodeD; rw [hlf])
        have hP : Prs w4 none [] := fun q => by simp at q
        have hfr : 0 < ([] : List (Int × Int)).length → ∀ b o, (none : Option Addr) = some ⟨b, o, none⟩ → wr.heap.size < b := fun q => by simp at q
        clear hpa hlf
        dsimp only
        have O5 := Lib.hid ((own_mod2 OW.out M (fun _ _ q => q)).alloc (.cells #[.int .i64 (-1), .slice none 0 0] 75))
        have MM := Lib.hid (((show Same wr w4 from M).alloc (.cells #[.int .i64 (-1), .slice none 0 0] 75)).alloc (.cells #[.int .i64 (-1), .slice none 0 0] 75))
        have PP := Lib.hid (hP.same (((Mod.refl (fun _ => False) w4).alloc (.cells #[.int .i64 (-1), .slice none 0 0] 75)).alloc (.cells #[.int .i64 (-1), .slice none 0 0] 75)))
        have FF := Lib.hid hfr
        have hw4 : wr.heap.size ≤ w4.heap.size := M.size
        clear M hP hfr
        go_wp2_with (at_builtin; refine wpList_append_lies _ rfl (.tmp 30) (.tmp 32) 61 rfl w.heap.size 75 i0 (.agg #[.int .i64 0, .slice none 0 0]) 2 32 Tryz.underlying61 I0.out Z0.out Z1.out Z2.out rfl (by decide) _ k _ rfl (O5.out.alloc _) ⟨w4.heap.size + 1, 0, none⟩ 1 1 [.int .i64 (-1), .slice none 0 0] rfl rfl (by have := nd_new (w4.alloc (.cells #[.int .i64 (-1), .slice none 0 0] 75)) (-1) (.slice none 0 0) 75; rw [World.size_alloc] at this; exact this) (nd_cells _ _ _ _) (by decide) (by unfold maxLen; omega) (by omega) (by simp only [World.size_alloc]; omega) _ rfl ?_; intro g cap w6 hown6 hgrow hgb hglt; have ST := Lib.hid (nds_step (f := fun i => nodeD l (i + 1)) HF.out J.out OW.out PR.out NE.out MM.out PP.out FF.out hown6 hgrow hgb); clear hown6 hgrow hgb hglt)
        go_roundw
        obtain ⟨q1, q2, q3, q4⟩ := ST.out
        case rel => exact ⟨k + 1, _, by omega, by go_num, q1, q2, q3, q4⟩
        case measure => simp [intOf]; omega
      | some q =>
        obtain ⟨lv, L⟩ := q
        have HF := Lib.hid (show (fun i => nodeD l (i + 1)) k = (lv, L) by dsimp only; unfold nodeD; rw [hlf])
        obtain ⟨hP, hfr0⟩ := hpa lv L hlf
        have hfr : 0 < L.length → ∀ b o, a = some ⟨b, o, none⟩ → wr.heap.size < b := fun _ => hfr0
        clear hpa hlf hfr0
        dsimp only
        have O5 := Lib.hid ((own_mod2 OW.out M (fun _ _ q => q)).alloc (.cells #[.int .i64 lv, .slice a L.length c] 75))
        have MM := Lib.hid (((show Same wr w4 from M).alloc (.cells #[.int .i64 lv, .slice a L.length c] 75)).alloc (.cells #[.int .i64 lv, .slice a L.length c] 75))
        have PP := Lib.hid (hP.same (((Mod.refl (fun _ => False) w4).alloc (.cells #[.int .i64 lv, .slice a L.length c] 75)).alloc (.cells #[.int .i64 lv, .slice a L.length c] 75)))
        have FF := Lib.hid hfr
        have hw4 : wr.heap.size ≤ w4.heap.size := M.size
        clear M hP hfr
        go_wp2_with (at_builtin; refine wpList_append_lies _ rfl (.tmp 30) (.tmp 32) 61 rfl w.heap.size 75 i0 (.agg #[.int .i64 0, .slice none 0 0]) 2 32 Tryz.underlying61 I0.out Z0.out Z1.out Z2.out rfl (by decide) _ k _ rfl (O5.out.alloc _) ⟨w4.heap.size + 1, 0, none⟩ 1 1 [.int .i64 lv, .slice a L.length c] rfl rfl (by have := nd_new (w4.alloc (.cells #[.int .i64 lv, .slice a L.length c] 75)) lv (.slice a L.length c) 75; rw [World.size_alloc] at this; exact this) (nd_cells _ _ _ _) (by decide) (by unfold maxLen; omega) (by omega) (by simp only [World.size_alloc]; omega) _ rfl ?_; intro g cap w6 hown6 hgrow hgb hglt; have ST := Lib.hid (nds_step (f := fun i => nodeD l (i + 1)) HF.out J.out OW.out PR.out NE.out MM.out PP.out FF.out hown6 hgrow hgb); clear hown6 hgrow hgb hglt)
        go_roundw
        obtain ⟨q1, q2, q3, q4⟩ := ST.out
        case rel => exact ⟨k + 1, _, by omega, by go_num, q1, q2, q3, q4⟩
        case measure => simp [intOf]; omega
    · obtain rfl : k = np - 1 := by omega
      obtain ⟨a, c, rfl, hnd⟩ := nds_own OW.out PR.out
      have ND := Lib.hid hnd
      clear hnd
      have hcd : ¬ ((np - 1 + 1 : Nat) : Int) < (np : Int) := by omega
      go_wp2_with fail
      exact HR.out _ _ ⟨⟨a, c, rfl, ND.out⟩, J.out⟩
end Go.Proofs.YtjkndfenniongaaGreatDoor
