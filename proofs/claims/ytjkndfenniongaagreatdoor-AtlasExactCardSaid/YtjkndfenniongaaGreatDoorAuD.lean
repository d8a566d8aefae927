import Derived.Test.YtjkndfenniongaaGreatDoorAuC
import Derived.Deep.RegionLaw
import Derived.Deep.AppendLies
set_option linter.unusedSimpArgs false
set_option linter.unusedVariables false
set_option maxRecDepth 100000
/- Nodes are read. -/
namespace Go.Proofs.YtjkndfenniongaaGreatDoor
open Go Go.RowKit
def prK (u : List UInt8) (i : Nat) : Int × Int := (leV ((u.drop (16 * i)).take 8), leV ((u.drop (16 * i + 8)).take 8))
def prsK (u : List UInt8) (k : Nat) : List (Int × Int) := (List.range k).map (prK u)
def lfL (t : List UInt8) : List (Int × Int) := prsK (t.drop 4) (min (leV ((t.drop 2).take 1)).toNat 15)
def lfOk (kd lv nn zz : Int) (r : List UInt8) (L : List (Int × Int)) : Bool := (r.all fun x => x == 0) && (decide (zz = 0) && decide (kd = 76) && decide (nn ≤ 15)) && goodL lv L
def leafP (l : List UInt8) : Option (Int × List (Int × Int)) := match openL l with
  | none => none
  | some t => if lfOk (leV (t.take 1)) (leV ((t.drop 1).take 1)) (leV ((t.drop 2).take 1)) (leV ((t.drop 3).take 1)) ((t.drop 4).drop (16 * min (leV ((t.drop 2).take 1)).toNat 15)) (lfL t) = true then some (leV ((t.drop 1).take 1), lfL t) else none
def prC (p : Int × Int) : List Value := [.int .u64 p.1, .int .u64 p.2]
theorem info123 : (Tryz.prog.info? 123).map (fun i => (i.zero, i.size, i.bytes)) = some (some (.agg #[.int .u64 0, .int .u64 0]), 2, 16) := by kernel_rfl
theorem takeL_ok {l : List UInt8} {sh : Bool} {n : Nat} (h : n ≤ l.length) : takeL l sh n = (l.take n, l.drop n, sh) := if_pos h
theorem pr_flat_len (L : List (Int × Int)) : (L.flatMap prC).length = L.length * 2 := by
  induction L with
  | nil => rfl
  | cons x L ih => rw [List.flatMap_cons, List.length_append, ih, List.length_cons]; simp [prC]; omega
theorem pr_flat_get : ∀ (L : List (Int × Int)) (i j : Nat) (x : Int × Int), L[i]? = some x → j < 2 → (L.flatMap prC)[i * 2 + j]? = (prC x)[j]?
  | [], i, j, x, h, _ => by simp at h
  | y :: L, 0, j, x, h, hj => by
    simp at h
    subst h
    rw [List.flatMap_cons, Nat.zero_mul, Nat.zero_add, List.getElem?_append_left (by simpa [prC] using hj)]
  | y :: L, i + 1, j, x, h, hj => by
    rw [List.flatMap_cons, List.getElem?_append_right (by simp [prC]; omega)]
    rw [show (i + 1) * 2 + j - (prC y).length = i * 2 + j by simp [prC]; omega]
    exact pr_flat_get L i j x (by simpa using h) hj
theorem prs_own {w : World} {base : Nat} {ty : TypeId} {v : Value} {L : List (Int × Int)} (h : w.ownsRow base ty 2 v L.length (L.flatMap prC)) : ∃ a c, v = .slice a L.length c ∧ Prs w a L := by
  by_cases hp : 0 < L.length
  · obtain ⟨g, cap, hv, hb, hc, hr⟩ := RowV.of_owns h hp
    refine ⟨some ⟨g, 0, none⟩, cap, hv, fun _ => ⟨g, 0, rfl, hr.lt, fun i p h1 => ?_⟩⟩
    have hi : i < L.length := (List.getElem?_eq_some_iff.1 h1).1
    rw [Nat.zero_add]
    refine ⟨?_, ?_⟩
    · refine (hr.cell (i * 2) (by omega)).trans ?_
      rw [List.getD_eq_getElem?_getD, show i * 2 = i * 2 + 0 from rfl, pr_flat_get L i 0 p h1 (by omega)]; rfl
    · refine (hr.cell (i * 2 + 1) (by omega)).trans ?_
      rw [List.getD_eq_getElem?_getD, pr_flat_get L i 1 p h1 (by omega)]; rfl
  · obtain ⟨a, c, hs⟩ := owns_slice h
    exact ⟨a, c, hs, fun q => absurd q hp⟩
theorem two_set {w : World} {b : Nat} {a0 a1 : Value} (h : Blk w b #[a0, a1]) (v0 v1 : Value) : Blk ((w.setCell ⟨b, 0, none⟩ v0).setCell ⟨b, 1, none⟩ v1) b #[v0, v1] := (h.set 0 v0).set 1 v1
theorem two_mod (w : World) (b : Nat) (v0 v1 : Value) : Mod (fun i => i = b) w ((w.setCell ⟨b, 0, none⟩ v0).setCell ⟨b, 1, none⟩ v1) :=
  ((Mod.refl (fun i => i = b) w).setCell (p := ⟨b, 0, none⟩) (fun _ => rfl) v0).setCell (p := ⟨b, 1, none⟩) (fun _ => rfl) v1
theorem pr_new (w : World) (a b : Int) (t : TypeId) : ∀ j u, ([.int .u64 a, .int .u64 b] : List Value)[j]? = some u → (w.alloc (.cells #[.int .u64 a, .int .u64 b] t)).cell? (Addr.add ⟨w.heap.size, 0, none⟩ j) = some u := by
  intro j u hu
  have hadd : (⟨w.heap.size, 0, none⟩ : Addr).add j = ⟨w.heap.size, j, none⟩ := by unfold Addr.add; split <;> simp_all
  rw [hadd]
  refine ((Blk.new w _ t).cell j).trans ?_
  match j, hu with
  | 0, hu => exact hu
  | 1, hu => exact hu
theorem pr_cells (a b : Int) : ∀ u ∈ ([.int .u64 a, .int .u64 b] : List Value), u.oneCell' = true := fun u hu => by
  simp at hu
  rcases hu with rfl | rfl <;> rfl
theorem own_mod {w w' : World} {S : Nat → Prop} {base size n : Nat} {e : TypeId} {v : Value} {xs : List Value} (h : w.ownsRow base e size v n xs) (M : Mod S w w') (hS : ∀ i, S i → i < base) : w'.ownsRow base e size v n xs := by
  obtain ⟨hl, h0 | ⟨g, cap, cur, hv, hb, hh, r⟩⟩ := h
  · exact ⟨hl, .inl h0⟩
  · exact ⟨hl, .inr ⟨g, cap, cur, hv, hb, (M.block g (lt_of_heap hh) (fun q => by have := hS g q; omega)).trans hh, r⟩⟩
theorem prs_mod {w w' : World} {a : Option Addr} {L : List (Int × Int)} {z : Nat} (h : Prs w a L) (M : Mod (fun i => i = z) w w') (hz : ∀ b o, a = some ⟨b, o, none⟩ → z < b) : Prs w' a L := by
  intro hp
  obtain ⟨b, o, rfl, hb, hc⟩ := h hp
  have hne : ¬ b = z := fun q => by have := hz b o rfl; omega
  exact ⟨b, o, rfl, Nat.lt_of_lt_of_le hb M.size, fun i p h1 => ⟨(M.cell hb hne _).trans (hc i p h1).1, (M.cell hb hne _).trans (hc i p h1).2⟩⟩
def LeafR (l : List UInt8) (B : Nat) (e : Ending) (w' : World) : Prop := match leafP l with
  | none => e = .returned (.tuple #[.agg #[.int .i64 0, .slice none 0 0], .int .i64 3])
  | some (lv, L) => ∃ a c, e = .returned (.tuple #[.agg #[.int .i64 lv, .slice a L.length c], .int .i64 0]) ∧ Prs w' a L ∧ ∀ b o, a = some ⟨b, o, none⟩ → B < b
set_option maxHeartbeats 8000000 in
theorem lread_any (l : List UInt8) (hl : l.length = 256) (w : World) : Calls Tryz.prog 62 #[strV l] w fun e w' => LeafR l w.heap.size e w' ∧ Same w w' := by
  refine opq fun R HR => ?_
  have HO := Lib.hid (fun w => open_any l w (by omega))
  unfold LeafR leafP at HR
  have A0 := Lib.hid (Below.alloc (Below.refl w.heap.size w) (Nat.le_refl _) (.cells #[.int .i64 0, .slice none 0 0] 75))
  have B0 := Lib.hid (Blk.new w #[.int .i64 0, .slice none 0 0] 75)
  have hbl := bytes_size l
  rw [hl] at hbl
  unfold strV
  cases ho : openL l with
  | none =>
    rw [ho] at HR HO
    dsimp only at HR HO
    go_enter Tryz.func62, Tryz.ntmps62
    go_wp2_with fail
    generalize w.alloc _ = W0 at *
    refine (HO.out _).mono ?_
    rintro e w1 ⟨rfl, M⟩
    have N1 := Lib.hid (A0.out.trans (M.to_below A0.out.size))
    have X1 := B0.out.mod M (fun q => q)
    have c0 := X1.at_ (i := 0) _ rfl
    have c1 := X1.at_ (i := 1) _ rfl
    have f0 := X1.free 0
    have f1 := X1.free 1
    have Y := Lib.hid (two_set X1 (.int .i64 0) (.slice none 0 0))
    have N2 := Lib.hid (Same.of_below (N1.out.trans (modR_below (two_mod w1 w.heap.size (.int .i64 0) (.slice none 0 0)) N1.out.size (Nat.le_refl _))))
    clear M X1 A0 B0 N1
    go_wp2_with fail
    generalize World.setCell _ _ _ = w2 at *
    have c0 := Y.out.at_ (i := 0) _ rfl
    have c1 := Y.out.at_ (i := 1) _ rfl
    exact bodyPost_ret (v := .tuple #[.agg #[.int .i64 0, .slice none 0 0], .int .i64 3]) (by simp [results, Tryz.results62, go_sem, c0, c1]) rfl (HR.out _ _ ⟨rfl, N2.out⟩)
  | some t =>
    rw [ho] at HR HO
    dsimp only at HR HO
    have ht := openL_len ho
    have ht2 : t.length = 252 := by omega
    clear ht ho
    have v0 := leV_bd (t.take 1)
    have v1 := leV_bd ((t.drop 1).take 1)
    have v2 := leV_bd ((t.drop 2).take 1)
    have v3 := leV_bd ((t.drop 3).take 1)
    rw [List.length_take] at v0 v1 v2 v3
    have q0 : min 1 t.length = 1 := by omega
    have q1 : min 1 (t.drop 1).length = 1 := by rw [List.length_drop]; omega
    have q2 : min 1 (t.drop 2).length = 1 := by rw [List.length_drop]; omega
    have q3 : min 1 (t.drop 3).length = 1 := by rw [List.length_drop]; omega
    rw [q0] at v0; rw [q1] at v1; rw [q2] at v2; rw [q3] at v3
    clear q0 q1 q2 q3
    have g1 := Lib.hid (fun r w h => get_any r t false 1 1 (by decide) w h (by omega))
    have g2 := Lib.hid (fun r w h => get_any r (t.drop 1) false 1 1 (by decide) w h (by rw [List.length_drop]; omega))
    have g3 := Lib.hid (fun r w h => get_any r (t.drop 2) false 1 1 (by decide) w h (by rw [List.length_drop]; omega))
    have g4 := Lib.hid (fun r w h => get_any r (t.drop 3) false 1 1 (by decide) w h (by rw [List.length_drop]; omega))
    rw [takeL_ok (by omega)] at g1
    rw [takeL_ok (by rw [List.length_drop]; omega), List.drop_drop] at g2 g3 g4
    unfold lfL at HR
    dsimp only at g1 g2 g3 g4
    generalize leV (t.take 1) = kd at *
    generalize leV ((t.drop 1).take 1) = lv at *
    generalize leV ((t.drop 2).take 1) = nn at *
    generalize leV ((t.drop 3).take 1) = zz at *
    have hdl : (t.drop 4).length = 248 := by rw [List.length_drop]; omega
    have i1 : IntKind.i64.wrap lv = lv := IntWalk.i64_in _ (by omega)
    have i2 : IntKind.i64.wrap nn = nn := IntWalk.i64_in _ (by omega)
    obtain ⟨n, hn⟩ : ∃ n : Nat, nn = (n : Int) := ⟨nn.toNat, by omega⟩
    subst hn
    rw [Int.toNat_natCast] at HR
    generalize t.drop 4 = u at *
    obtain ⟨m, hm⟩ : ∃ m, min n 15 = m := ⟨_, rfl⟩
    rw [hm] at HR
    have hm15 : m ≤ 15 := by omega
    have hmi : min (n : Int) 15 = (m : Int) := by omega
    obtain ⟨i0, hi, hz0, hz1, hz2⟩ := info_parts info123
    have I0 := Lib.hid hi
    have Z0 := Lib.hid hz0
    have Z1 := Lib.hid hz1
    have Z2 := Lib.hid hz2
    clear hi hz0 hz1 hz2
    go_enter Tryz.func62, Tryz.ntmps62
    go_wp2_with fail
    generalize w.alloc _ = W0 at *
    refine (HO.out _).mono ?_
    rintro e w1 ⟨rfl, M⟩
    have N1 := Lib.hid (A0.out.trans (M.to_below A0.out.size))
    have X1 := Lib.hid (B0.out.mod M (fun q => q))
    clear M A0 B0 HO
    go_wp2_with fail
    refine (of_any _ w1).mono ?_
    rintro e w2 ⟨rfl, hr, M⟩
    have hwr : w.heap.size < w1.heap.size := X1.out.lt
    have N2 := Lib.hid (N1.out.trans (M.to_below N1.out.size))
    have X2 := Lib.hid (X1.out.mod M (fun q => q))
    have R2 := Lib.hid hr
    generalize w1.heap.size = r at *
    clear M hr N1 X1
    go_wp2_with fail
    refine (g1.out _ w2 R2.out).mono ?_
    rintro e w3 ⟨rfl, hr, M⟩
    have N3 := Lib.hid (N2.out.trans (modR_below M N2.out.size (by omega)))
    have X3 := Lib.hid (X2.out.mod M (fun q => by omega))
    have R3 := Lib.hid hr
    clear M hr N2 X2 R2 g1
    go_wp2_with fail
    refine (g2.out _ w3 R3.out).mono ?_
    rintro e w4 ⟨rfl, hr, M⟩
    have N4 := Lib.hid (N3.out.trans (modR_below M N3.out.size (by omega)))
    have X4 := Lib.hid (X3.out.mod M (fun q => by omega))
    have R4 := Lib.hid (show Blk w4 r (rcells (t.drop 2) false) from hr)
    clear M hr N3 X3 R3 g2
    have Y5 := Lib.hid (Blk.new w4 #[.int .i64 lv, .slice none 0 0] 75)
    have M5 := Lib.hid ((Mod.refl (fun i => i = w4.heap.size) w4).alloc (.cells #[.int .i64 lv, .slice none 0 0] 75))
    go_wp2_with fail
    generalize w4.alloc _ = w5 at *
    have hrH : r < w4.heap.size := R4.out.lt
    have hwH : w.heap.size < w4.heap.size := X4.out.lt
    have N5 := Lib.hid (N4.out.trans (modR_below M5.out N4.out.size (by omega)))
    have X5 := Lib.hid (X4.out.mod M5.out (fun q => by omega))
    have R5 := Lib.hid (R4.out.mod M5.out (fun q => by omega))
    generalize w4.heap.size = H at *
    clear N4 X4 R4 M5
    refine (g3.out _ w5 R5.out).mono ?_
    rintro e w6 ⟨rfl, hr, M⟩
    have N6 := Lib.hid (N5.out.trans (modR_below M N5.out.size (by omega)))
    have X6 := Lib.hid (X5.out.mod M (fun q => by omega))
    have Y6 := Lib.hid (Y5.out.mod M (fun q => by omega))
    have R6 := Lib.hid (show Blk w6 r (rcells (t.drop 3) false) from hr)
    clear M hr N5 X5 R5 Y5 g3
    go_wp2_with fail
    refine (g4.out _ w6 R6.out).mono ?_
    rintro e w7 ⟨rfl, hr, M⟩
    have N7 := Lib.hid (N6.out.trans (modR_below M N6.out.size (by omega)))
    have X7 := Lib.hid (X6.out.mod M (fun q => by omega))
    have Y7 := Lib.hid (Y6.out.mod M (fun q => by omega))
    have R7 := Lib.hid hr
    have hHs : H < w7.heap.size := Y7.out.lt
    clear M hr N6 X6 R6 Y6 g4

    by_cases hz : zz = 0
    · have hzb : (zz == 0) = true := by simp [hz]
      by_cases hk : kd = 76
      · have hkb : (kd == 76) = true := by simp [hk]
        by_cases hn15 : n ≤ 15
        · have hok : (decide (zz = 0) && decide (kd = 76) && decide ((n : Int) ≤ 15)) = true := by simp [hz, hk]; omega
          go_wp2_with fail
          go_loopw [48, 10] (fun vi _ wr => ∃ (k : Nat) (a : Option Addr) (c : Nat), k ≤ m ∧ vi = .int .i64 (k : Int) ∧ Blk wr r (rcells (u.drop (16 * k)) false) ∧ Blk wr H #[.int .i64 lv, .slice a k c] ∧ wr.ownsRow w7.heap.size 123 2 (.slice a k c) k ((prsK u k).flatMap prC) ∧ Blk wr w.heap.size #[.int .i64 0, .slice none 0 0] ∧ Below w.heap.size w wr ∧ w7.heap.size ≤ wr.heap.size) (fun vi _ _ => m - (intOf vi).toNat)
          case atStart => exact ⟨0, none, 0, by omega, rfl, by simpa using R7.out, Y7.out, World.ownsRow_nil _ _ _ _, X7.out, N7.out, Nat.le_refl _⟩
          case round =>
            obtain ⟨k, a, c, hk, rfl, hq, hh, ho, hx, hn7, hsz⟩ := hrel
            have Q := Lib.hid hq
            have HB := Lib.hid hh
            have OW := Lib.hid ho
            have XX := Lib.hid hx
            have NN := Lib.hid hn7
            clear hq hh ho hx hn7 R7 Y7 X7 N7
            by_cases hlt : k < m
            · have gk := Lib.hid (get_any r (u.drop (16 * k)) false 8 8 (by decide) wr Q.out (by rw [List.length_drop]; omega))
              rw [takeL_ok (by rw [List.length_drop]; omega), List.drop_drop] at gk
              dsimp only at gk
              have gk2 := Lib.hid (fun w' h => get_any r (u.drop (16 * k + 8)) false 8 8 (by decide) w' h (by rw [List.length_drop]; omega))
              rw [takeL_ok (by rw [List.length_drop]; omega), List.drop_drop] at gk2
              dsimp only at gk2
              have hsn := Lib.hid (show prsK u (k + 1) = prsK u k ++ [(leV ((u.drop (16 * k)).take 8), leV ((u.drop (16 * k + 8)).take 8))] by unfold prsK; rw [List.range_succ, List.map_append]; rfl)
              generalize leV ((u.drop (16 * k)).take 8) = ky at *
              generalize leV ((u.drop (16 * k + 8)).take 8) = vl at *
              go_wp2_with fail
              refine gk.out.mono ?_
              rintro e w8 ⟨rfl, hr, M⟩
              have Q8 := Lib.hid hr
              have H8 := Lib.hid (HB.out.mod M (fun q => by omega))
              have O8 := Lib.hid (own_mod OW.out M (fun i q => by omega))
              have X8 := Lib.hid (XX.out.mod M (fun q => by omega))
              have N8 := Lib.hid (NN.out.trans (modR_below M NN.out.size (by omega)))
              have hsz8 : w7.heap.size ≤ w8.heap.size := Nat.le_trans hsz M.size
              have e1 := H8.out.at_ (i := 1) _ rfl
              have f1 := H8.out.free 1
              have hne : (Value.slice a k c).ownBlock ≠ some H := fun e => by have := (O8.out.lt _ e).1; omega
              clear hr M Q HB OW XX NN gk
              go_wp2_with fail
              go_region_law (first | (go_simp; go_at_call 77; refine (gk2.out _ (Q8.out.drew)).mono ?_; rintro e w9 ⟨rfl, hr, M⟩; have Q9 := Lib.hid hr; have H9 := Lib.hid (H8.out.drew.mod M (fun q => by omega)); have O9 := Lib.hid (own_mod (own_drew O8.out) M (fun i q => by omega)); have X9 := Lib.hid (X8.out.drew.mod M (fun q => by omega)); have N9 := Lib.hid (N8.out.drew.trans (modR_below M N8.out.size (by omega))); have hsz9 : w7.heap.size ≤ w9.heap.size := Nat.le_trans hsz8 M.size; have e1 := H9.out.at_ (i := 1) _ rfl; have f1 := H9.out.free 1; have e1b := (H9.out.alloc (.cells #[.int .u64 ky, .int .u64 vl] 123)).at_ (i := 1) _ rfl; have f1b := (H9.out.alloc (.cells #[.int .u64 ky, .int .u64 vl] 123)).free 1; clear hr M) | (refine step_append_lies _ rfl (.tmp 53) (.tmp 58) 68 rfl w7.heap.size 123 i0 (.agg #[.int .u64 0, .int .u64 0]) 2 16 Tryz.underlying68 I0.out Z0.out Z1.out Z2.out rfl (by decide) (.slice a k c) k _ (by simp [Act.eval, Act.put]) (O9.out.alloc _) ⟨w9.heap.size, 0, none⟩ 1 1 [.int .u64 ky, .int .u64 vl] (by simp [Act.eval, Act.put]) rfl (pr_new w9 ky vl 123) (pr_cells ky vl) (by decide) (by unfold maxLen; omega) (by omega) (by simp; omega) (w9.heap.size + 1) (by simp) ?_; intro g cap w10 hown2 hgrow hat hgl; have D1 := blk_grown (H9.out.alloc _) hgrow hne; have e1 := D1.at_ (i := 1) _ rfl; have f1 := D1.free 1; have O10 := Lib.hid hown2; have G10 := Lib.hid hgrow; clear hown2 hgrow))
              all_goals
                have hg2 : w7.heap.size ≤ g := (O10.out.lt g rfl).1
                have T0 := Lib.hid ((blk_grown (Q9.out.alloc _) G10.out (fun e => by have := (O9.out.lt _ e).1; omega)).set_far (p := ⟨H, 1, none⟩) (show H ≠ r by omega) (.slice (some ⟨g, 0, none⟩) (k + 1) cap))
                have T1 := Lib.hid (show Blk _ H #[.int .i64 lv, .slice (some ⟨g, 0, none⟩) (k + 1) cap] from D1.set 1 (.slice (some ⟨g, 0, none⟩) (k + 1) cap))
                have T2 := Lib.hid (ownsRow_setCell_other (a := ⟨H, 1, none⟩) O10.out (fun e => by have e2 : g = H := (by simpa [Value.ownBlock] using e); omega) (.slice (some ⟨g, 0, none⟩) (k + 1) cap))
                have T3 := Lib.hid ((blk_grown (X9.out.alloc _) G10.out (fun e => by have := (O9.out.lt _ e).1; omega)).set_far (p := ⟨H, 1, none⟩) (show H ≠ w.heap.size by omega) (.slice (some ⟨g, 0, none⟩) (k + 1) cap))
                have T4 := Lib.hid (((N9.out.alloc (by omega) _).grown G10.out (by simp; omega) (fun j hj => by have := (O9.out.lt j hj).1; omega)).setCell (p := ⟨H, 1, none⟩) (show w.heap.size ≤ H by omega) (.slice (some ⟨g, 0, none⟩) (k + 1) cap))
                have hsz10 : w7.heap.size ≤ w10.heap.size := by have := G10.out.size; simp at this; omega
                clear D1 O10 G10 O9 Q9 H9 X9 N9 Q8 H8 O8 X8 N8 gk2 hne
                go_wp2_with fail
                go_roundw
                case rel => exact ⟨k + 1, some ⟨g, 0, none⟩, cap, by omega, by go_num, by rw [show 16 * (k + 1) = 16 * k + 8 + 8 by omega]; exact T0.out, T1.out, by rw [hsn.out, List.flatMap_append]; simpa [prC] using T2.out, T3.out, T4.out, by simp only [World.size_setCell]; exact hsz10⟩
                case measure => simp [intOf]; omega
            · obtain rfl : k = m := by omega
              have hpl : (prsK u k).length = k := by unfold prsK; simp
              have ZR := Lib.hid (zeros_any r (u.drop (16 * k)) false (by rw [List.length_drop]; omega) wr Q.out)
              unfold lfOk at HR
              rw [hok] at HR
              generalize hall : ((u.drop (16 * k)).all fun x => x == 0) = al at *
              go_wp2_with fail
              refine ZR.out.mono ?_
              rintro e w8 ⟨rfl, M⟩
              have X8 := Lib.hid (XX.out.mod M (fun q => by omega))
              have N8 := Lib.hid (NN.out.trans (modR_below M NN.out.size (by omega)))
              have H8 := Lib.hid (HB.out.mod M (fun q => by omega))
              have O8 := Lib.hid (own_mod OW.out M (fun i q => by omega))
              clear M Q HB OW XX NN ZR hall
              cases al with
              | false =>
                rw [if_neg (by simp)] at HR
                dsimp only at HR
                have c0 := X8.out.at_ (i := 0) _ rfl
                have c1 := X8.out.at_ (i := 1) _ rfl
                have f0 := X8.out.free 0
                have f1 := X8.out.free 1
                have Y := Lib.hid (two_set X8.out (.int .i64 0) (.slice none 0 0))
                have N := Lib.hid (Same.of_below (N8.out.trans (modR_below (two_mod _ w.heap.size (.int .i64 0) (.slice none 0 0)) N8.out.size (Nat.le_refl _))))
                clear X8 N8
                go_wp2_with fail
                generalize World.setCell _ _ _ = w20 at *
                have b0 := Y.out.at_ (i := 0) _ rfl
                have b1 := Y.out.at_ (i := 1) _ rfl
                exact bodyPost_ret (v := .tuple #[.agg #[.int .i64 0, .slice none 0 0], .int .i64 3]) (by simp [results, Tryz.results62, go_sem, b0, b1]) rfl (HR.out _ _ ⟨rfl, N.out⟩)
              | true =>
                obtain ⟨a', c', hv, hprs⟩ := prs_own (L := prsK u k) (by rw [hpl]; exact O8.out)
                simp only [Value.slice.injEq] at hv
                obtain ⟨rfl, -, rfl⟩ := hv
                have HPb := Lib.hid (show ∀ b o, a = some ⟨b, o, none⟩ → w.heap.size < b from fun b o e => by subst e; have := (O8.out.lt b rfl).1; omega)
                have HG := Lib.hid (lgood_any lv a c (prsK u k) w8 (by omega) hprs)
                rw [hpl] at HG
                have P8 := Lib.hid hprs
                have h0 := H8.out.at_ (i := 0) _ rfl
                have h1 := H8.out.at_ (i := 1) _ rfl
                have HPL := Lib.hid hpl
                clear hprs O8 hpl hok hz hk hzb hkb
                go_wp2_with fail
                refine HG.out.mono ?_
                rintro e w10 ⟨rfl, M⟩
                have X10 := Lib.hid (X8.out.mod M (fun q => q))
                have N10 := Lib.hid (N8.out.trans (M.to_below N8.out.size))
                have H10 := Lib.hid (H8.out.mod M (fun q => q))
                have P10 := Lib.hid (P8.out.same M)
                clear M X8 N8 H8 P8 HG h0 h1
                cases hgd : goodL lv (prsK u k) with
                | false =>
                  rw [hgd, if_neg (by simp)] at HR
                  dsimp only at HR
                  have c0 := X10.out.at_ (i := 0) _ rfl
                  have c1 := X10.out.at_ (i := 1) _ rfl
                  have f0 := X10.out.free 0
                  have f1 := X10.out.free 1
                  have Y := Lib.hid (two_set X10.out (.int .i64 0) (.slice none 0 0))
                  have N := Lib.hid (Same.of_below (N10.out.trans (modR_below (two_mod _ w.heap.size (.int .i64 0) (.slice none 0 0)) N10.out.size (Nat.le_refl _))))
                  clear X10 N10
                  go_wp2_with fail
                  generalize World.setCell _ _ _ = w20 at *
                  have b0 := Y.out.at_ (i := 0) _ rfl
                  have b1 := Y.out.at_ (i := 1) _ rfl
                  exact bodyPost_ret (v := .tuple #[.agg #[.int .i64 0, .slice none 0 0], .int .i64 3]) (by simp [results, Tryz.results62, go_sem, b0, b1]) rfl (HR.out _ _ ⟨rfl, N.out⟩)
                | true =>
                  rw [hgd, if_pos (by simp)] at HR
                  dsimp only at HR
                  have h0 := H10.out.at_ (i := 0) _ rfl
                  have h1 := H10.out.at_ (i := 1) _ rfl
                  have hY : w.heap.size < w10.heap.size := X10.out.lt
                  have c0 := X10.out.at_ (i := 0) _ rfl
                  have c1 := X10.out.at_ (i := 1) _ rfl
                  have f0 := X10.out.free 0
                  have f1 := X10.out.free 1
                  have Y := Lib.hid (two_set X10.out (.int .i64 lv) (.slice a k c))
                  have N := Lib.hid (Same.of_below (N10.out.trans (modR_below (two_mod _ w.heap.size (.int .i64 lv) (.slice a k c)) N10.out.size (Nat.le_refl _))))
                  have P := Lib.hid (prs_mod P10.out (two_mod w10 w.heap.size (.int .i64 lv) (.slice a k c)) HPb.out)
                  clear X10 N10
                  go_wp2_with fail
                  generalize World.setCell _ _ _ = w20 at *
                  have b0 := Y.out.at_ (i := 0) _ rfl
                  have b1 := Y.out.at_ (i := 1) _ rfl
                  exact bodyPost_ret (v := .tuple #[.agg #[.int .i64 lv, .slice a k c], .int .i64 0]) (by simp [results, Tryz.results62, go_sem, b0, b1]) rfl (HR.out _ _ ⟨⟨a, c, by rw [HPL.out], P.out, HPb.out⟩, N.out⟩)
        · have hok : (decide (zz = 0) && decide (kd = 76) && decide ((n : Int) ≤ 15)) = false := by simp [hz, hk]; omega
          go_wp2_with fail
          go_loopw [48, 10] (fun vi _ wr => ∃ (k : Nat) (a : Option Addr) (c : Nat), k ≤ m ∧ vi = .int .i64 (k : Int) ∧ Blk wr r (rcells (u.drop (16 * k)) false) ∧ Blk wr H #[.int .i64 lv, .slice a k c] ∧ wr.ownsRow w7.heap.size 123 2 (.slice a k c) k ((prsK u k).flatMap prC) ∧ Blk wr w.heap.size #[.int .i64 0, .slice none 0 0] ∧ Below w.heap.size w wr ∧ w7.heap.size ≤ wr.heap.size) (fun vi _ _ => m - (intOf vi).toNat)
          case atStart => exact ⟨0, none, 0, by omega, rfl, by simpa using R7.out, Y7.out, World.ownsRow_nil _ _ _ _, X7.out, N7.out, Nat.le_refl _⟩
          case round =>
            obtain ⟨k, a, c, hk, rfl, hq, hh, ho, hx, hn7, hsz⟩ := hrel
            have Q := Lib.hid hq
            have HB := Lib.hid hh
            have OW := Lib.hid ho
            have XX := Lib.hid hx
            have NN := Lib.hid hn7
            clear hq hh ho hx hn7 R7 Y7 X7 N7
            by_cases hlt : k < m
            · have gk := Lib.hid (get_any r (u.drop (16 * k)) false 8 8 (by decide) wr Q.out (by rw [List.length_drop]; omega))
              rw [takeL_ok (by rw [List.length_drop]; omega), List.drop_drop] at gk
              dsimp only at gk
              have gk2 := Lib.hid (fun w' h => get_any r (u.drop (16 * k + 8)) false 8 8 (by decide) w' h (by rw [List.length_drop]; omega))
              rw [takeL_ok (by rw [List.length_drop]; omega), List.drop_drop] at gk2
              dsimp only at gk2
              have hsn := Lib.hid (show prsK u (k + 1) = prsK u k ++ [(leV ((u.drop (16 * k)).take 8), leV ((u.drop (16 * k + 8)).take 8))] by unfold prsK; rw [List.range_succ, List.map_append]; rfl)
              generalize leV ((u.drop (16 * k)).take 8) = ky at *
              generalize leV ((u.drop (16 * k + 8)).take 8) = vl at *
              go_wp2_with fail
              refine gk.out.mono ?_
              rintro e w8 ⟨rfl, hr, M⟩
              have Q8 := Lib.hid hr
              have H8 := Lib.hid (HB.out.mod M (fun q => by omega))
              have O8 := Lib.hid (own_mod OW.out M (fun i q => by omega))
              have X8 := Lib.hid (XX.out.mod M (fun q => by omega))
              have N8 := Lib.hid (NN.out.trans (modR_below M NN.out.size (by omega)))
              have hsz8 : w7.heap.size ≤ w8.heap.size := Nat.le_trans hsz M.size
              have e1 := H8.out.at_ (i := 1) _ rfl
              have f1 := H8.out.free 1
              have hne : (Value.slice a k c).ownBlock ≠ some H := fun e => by have := (O8.out.lt _ e).1; omega
              clear hr M Q HB OW XX NN gk
              go_wp2_with fail
              go_region_law (first | (go_simp; go_at_call 77; refine (gk2.out _ (Q8.out.drew)).mono ?_; rintro e w9 ⟨rfl, hr, M⟩; have Q9 := Lib.hid hr; have H9 := Lib.hid (H8.out.drew.mod M (fun q => by omega)); have O9 := Lib.hid (own_mod (own_drew O8.out) M (fun i q => by omega)); have X9 := Lib.hid (X8.out.drew.mod M (fun q => by omega)); have N9 := Lib.hid (N8.out.drew.trans (modR_below M N8.out.size (by omega))); have hsz9 : w7.heap.size ≤ w9.heap.size := Nat.le_trans hsz8 M.size; have e1 := H9.out.at_ (i := 1) _ rfl; have f1 := H9.out.free 1; have e1b := (H9.out.alloc (.cells #[.int .u64 ky, .int .u64 vl] 123)).at_ (i := 1) _ rfl; have f1b := (H9.out.alloc (.cells #[.int .u64 ky, .int .u64 vl] 123)).free 1; clear hr M) | (refine step_append_lies _ rfl (.tmp 53) (.tmp 58) 68 rfl w7.heap.size 123 i0 (.agg #[.int .u64 0, .int .u64 0]) 2 16 Tryz.underlying68 I0.out Z0.out Z1.out Z2.out rfl (by decide) (.slice a k c) k _ (by simp [Act.eval, Act.put]) (O9.out.alloc _) ⟨w9.heap.size, 0, none⟩ 1 1 [.int .u64 ky, .int .u64 vl] (by simp [Act.eval, Act.put]) rfl (pr_new w9 ky vl 123) (pr_cells ky vl) (by decide) (by unfold maxLen; omega) (by omega) (by simp; omega) (w9.heap.size + 1) (by simp) ?_; intro g cap w10 hown2 hgrow hat hgl; have D1 := blk_grown (H9.out.alloc _) hgrow hne; have e1 := D1.at_ (i := 1) _ rfl; have f1 := D1.free 1; have O10 := Lib.hid hown2; have G10 := Lib.hid hgrow; clear hown2 hgrow))
              all_goals
                have hg2 : w7.heap.size ≤ g := (O10.out.lt g rfl).1
                have T0 := Lib.hid ((blk_grown (Q9.out.alloc _) G10.out (fun e => by have := (O9.out.lt _ e).1; omega)).set_far (p := ⟨H, 1, none⟩) (show H ≠ r by omega) (.slice (some ⟨g, 0, none⟩) (k + 1) cap))
                have T1 := Lib.hid (show Blk _ H #[.int .i64 lv, .slice (some ⟨g, 0, none⟩) (k + 1) cap] from D1.set 1 (.slice (some ⟨g, 0, none⟩) (k + 1) cap))
                have T2 := Lib.hid (ownsRow_setCell_other (a := ⟨H, 1, none⟩) O10.out (fun e => by have e2 : g = H := (by simpa [Value.ownBlock] using e); omega) (.slice (some ⟨g, 0, none⟩) (k + 1) cap))
                have T3 := Lib.hid ((blk_grown (X9.out.alloc _) G10.out (fun e => by have := (O9.out.lt _ e).1; omega)).set_far (p := ⟨H, 1, none⟩) (show H ≠ w.heap.size by omega) (.slice (some ⟨g, 0, none⟩) (k + 1) cap))
                have T4 := Lib.hid (((N9.out.alloc (by omega) _).grown G10.out (by simp; omega) (fun j hj => by have := (O9.out.lt j hj).1; omega)).setCell (p := ⟨H, 1, none⟩) (show w.heap.size ≤ H by omega) (.slice (some ⟨g, 0, none⟩) (k + 1) cap))
                have hsz10 : w7.heap.size ≤ w10.heap.size := by have := G10.out.size; simp at this; omega
                clear D1 O10 G10 O9 Q9 H9 X9 N9 Q8 H8 O8 X8 N8 gk2 hne
                go_wp2_with fail
                go_roundw
                case rel => exact ⟨k + 1, some ⟨g, 0, none⟩, cap, by omega, by go_num, by rw [show 16 * (k + 1) = 16 * k + 8 + 8 by omega]; exact T0.out, T1.out, by rw [hsn.out, List.flatMap_append]; simpa [prC] using T2.out, T3.out, T4.out, by simp only [World.size_setCell]; exact hsz10⟩
                case measure => simp [intOf]; omega
            · obtain rfl : k = m := by omega
              have hpl : (prsK u k).length = k := by unfold prsK; simp
              have ZR := Lib.hid (zeros_any r (u.drop (16 * k)) false (by rw [List.length_drop]; omega) wr Q.out)
              unfold lfOk at HR
              rw [hok] at HR
              generalize hall : ((u.drop (16 * k)).all fun x => x == 0) = al at *
              go_wp2_with fail
              refine ZR.out.mono ?_
              rintro e w8 ⟨rfl, M⟩
              have X8 := Lib.hid (XX.out.mod M (fun q => by omega))
              have N8 := Lib.hid (NN.out.trans (modR_below M NN.out.size (by omega)))
              have H8 := Lib.hid (HB.out.mod M (fun q => by omega))
              have O8 := Lib.hid (own_mod OW.out M (fun i q => by omega))
              clear M Q HB OW XX NN ZR hall
              cases al with
              | false =>
                rw [if_neg (by simp)] at HR
                dsimp only at HR
                have c0 := X8.out.at_ (i := 0) _ rfl
                have c1 := X8.out.at_ (i := 1) _ rfl
                have f0 := X8.out.free 0
                have f1 := X8.out.free 1
                have Y := Lib.hid (two_set X8.out (.int .i64 0) (.slice none 0 0))
                have N := Lib.hid (Same.of_below (N8.out.trans (modR_below (two_mod _ w.heap.size (.int .i64 0) (.slice none 0 0)) N8.out.size (Nat.le_refl _))))
                clear X8 N8
                go_wp2_with fail
                generalize World.setCell _ _ _ = w20 at *
                have b0 := Y.out.at_ (i := 0) _ rfl
                have b1 := Y.out.at_ (i := 1) _ rfl
                exact bodyPost_ret (v := .tuple #[.agg #[.int .i64 0, .slice none 0 0], .int .i64 3]) (by simp [results, Tryz.results62, go_sem, b0, b1]) rfl (HR.out _ _ ⟨rfl, N.out⟩)
              | true =>
                rw [if_neg (by simp)] at HR
                dsimp only at HR
                have c0 := X8.out.at_ (i := 0) _ rfl
                have c1 := X8.out.at_ (i := 1) _ rfl
                have f0 := X8.out.free 0
                have f1 := X8.out.free 1
                have Y := Lib.hid (two_set X8.out (.int .i64 0) (.slice none 0 0))
                have N := Lib.hid (Same.of_below (N8.out.trans (modR_below (two_mod _ w.heap.size (.int .i64 0) (.slice none 0 0)) N8.out.size (Nat.le_refl _))))
                clear X8 N8
                go_wp2_with fail
                generalize World.setCell _ _ _ = w20 at *
                have b0 := Y.out.at_ (i := 0) _ rfl
                have b1 := Y.out.at_ (i := 1) _ rfl
                exact bodyPost_ret (v := .tuple #[.agg #[.int .i64 0, .slice none 0 0], .int .i64 3]) (by simp [results, Tryz.results62, go_sem, b0, b1]) rfl (HR.out _ _ ⟨rfl, N.out⟩)
      · have hkb : (kd == 76) = false := beq_eq_false_iff_ne.2 hk
        have hok : (decide (zz = 0) && decide (kd = 76) && decide ((n : Int) ≤ 15)) = false := by simp [hk]
        go_wp2_with fail
        go_loopw [48, 10] (fun vi _ wr => ∃ (k : Nat) (a : Option Addr) (c : Nat), k ≤ m ∧ vi = .int .i64 (k : Int) ∧ Blk wr r (rcells (u.drop (16 * k)) false) ∧ Blk wr H #[.int .i64 lv, .slice a k c] ∧ wr.ownsRow w7.heap.size 123 2 (.slice a k c) k ((prsK u k).flatMap prC) ∧ Blk wr w.heap.size #[.int .i64 0, .slice none 0 0] ∧ Below w.heap.size w wr ∧ w7.heap.size ≤ wr.heap.size) (fun vi _ _ => m - (intOf vi).toNat)
        case atStart => exact ⟨0, none, 0, by omega, rfl, by simpa using R7.out, Y7.out, World.ownsRow_nil _ _ _ _, X7.out, N7.out, Nat.le_refl _⟩
        case round =>
          obtain ⟨k, a, c, hk, rfl, hq, hh, ho, hx, hn7, hsz⟩ := hrel
          have Q := Lib.hid hq
          have HB := Lib.hid hh
          have OW := Lib.hid ho
          have XX := Lib.hid hx
          have NN := Lib.hid hn7
          clear hq hh ho hx hn7 R7 Y7 X7 N7
          by_cases hlt : k < m
          · have gk := Lib.hid (get_any r (u.drop (16 * k)) false 8 8 (by decide) wr Q.out (by rw [List.length_drop]; omega))
            rw [takeL_ok (by rw [List.length_drop]; omega), List.drop_drop] at gk
            dsimp only at gk
            have gk2 := Lib.hid (fun w' h => get_any r (u.drop (16 * k + 8)) false 8 8 (by decide) w' h (by rw [List.length_drop]; omega))
            rw [takeL_ok (by rw [List.length_drop]; omega), List.drop_drop] at gk2
            dsimp only at gk2
            have hsn := Lib.hid (show prsK u (k + 1) = prsK u k ++ [(leV ((u.drop (16 * k)).take 8), leV ((u.drop (16 * k + 8)).take 8))] by unfold prsK; rw [List.range_succ, List.map_append]; rfl)
            generalize leV ((u.drop (16 * k)).take 8) = ky at *
            generalize leV ((u.drop (16 * k + 8)).take 8) = vl at *
            go_wp2_with fail
            refine gk.out.mono ?_
            rintro e w8 ⟨rfl, hr, M⟩
            have Q8 := Lib.hid hr
            have H8 := Lib.hid (HB.out.mod M (fun q => by omega))
            have O8 := Lib.hid (own_mod OW.out M (fun i q => by omega))
            have X8 := Lib.hid (XX.out.mod M (fun q => by omega))
            have N8 := Lib.hid (NN.out.trans (modR_below M NN.out.size (by omega)))
            have hsz8 : w7.heap.size ≤ w8.heap.size := Nat.le_trans hsz M.size
            have e1 := H8.out.at_ (i := 1) _ rfl
            have f1 := H8.out.free 1
            have hne : (Value.slice a k c).ownBlock ≠ some H := fun e => by have := (O8.out.lt _ e).1; omega
            clear hr M Q HB OW XX NN gk
            go_wp2_with fail
            go_region_law (first | (go_simp; go_at_call 77; refine (gk2.out _ (Q8.out.drew)).mono ?_; rintro e w9 ⟨rfl, hr, M⟩; have Q9 := Lib.hid hr; have H9 := Lib.hid (H8.out.drew.mod M (fun q => by omega)); have O9 := Lib.hid (own_mod (own_drew O8.out) M (fun i q => by omega)); have X9 := Lib.hid (X8.out.drew.mod M (fun q => by omega)); have N9 := Lib.hid (N8.out.drew.trans (modR_below M N8.out.size (by omega))); have hsz9 : w7.heap.size ≤ w9.heap.size := Nat.le_trans hsz8 M.size; have e1 := H9.out.at_ (i := 1) _ rfl; have f1 := H9.out.free 1; have e1b := (H9.out.alloc (.cells #[.int .u64 ky, .int .u64 vl] 123)).at_ (i := 1) _ rfl; have f1b := (H9.out.alloc (.cells #[.int .u64 ky, .int .u64 vl] 123)).free 1; clear hr M) | (refine step_append_lies _ rfl (.tmp 53) (.tmp 58) 68 rfl w7.heap.size 123 i0 (.agg #[.int .u64 0, .int .u64 0]) 2 16 Tryz.underlying68 I0.out Z0.out Z1.out Z2.out rfl (by decide) (.slice a k c) k _ (by simp [Act.eval, Act.put]) (O9.out.alloc _) ⟨w9.heap.size, 0, none⟩ 1 1 [.int .u64 ky, .int .u64 vl] (by simp [Act.eval, Act.put]) rfl (pr_new w9 ky vl 123) (pr_cells ky vl) (by decide) (by unfold maxLen; omega) (by omega) (by simp; omega) (w9.heap.size + 1) (by simp) ?_; intro g cap w10 hown2 hgrow hat hgl; have D1 := blk_grown (H9.out.alloc _) hgrow hne; have e1 := D1.at_ (i := 1) _ rfl; have f1 := D1.free 1; have O10 := Lib.hid hown2; have G10 := Lib.hid hgrow; clear hown2 hgrow))
            all_goals
              have hg2 : w7.heap.size ≤ g := (O10.out.lt g rfl).1
              have T0 := Lib.hid ((blk_grown (Q9.out.alloc _) G10.out (fun e => by have := (O9.out.lt _ e).1; omega)).set_far (p := ⟨H, 1, none⟩) (show H ≠ r by omega) (.slice (some ⟨g, 0, none⟩) (k + 1) cap))
              have T1 := Lib.hid (show Blk _ H #[.int .i64 lv, .slice (some ⟨g, 0, none⟩) (k + 1) cap] from D1.set 1 (.slice (some ⟨g, 0, none⟩) (k + 1) cap))
              have T2 := Lib.hid (ownsRow_setCell_other (a := ⟨H, 1, none⟩) O10.out (fun e => by have e2 : g = H := (by simpa [Value.ownBlock] using e); omega) (.slice (some ⟨g, 0, none⟩) (k + 1) cap))
              have T3 := Lib.hid ((blk_grown (X9.out.alloc _) G10.out (fun e => by have := (O9.out.lt _ e).1; omega)).set_far (p := ⟨H, 1, none⟩) (show H ≠ w.heap.size by omega) (.slice (some ⟨g, 0, none⟩) (k + 1) cap))
              have T4 := Lib.hid (((N9.out.alloc (by omega) _).grown G10.out (by simp; omega) (fun j hj => by have := (O9.out.lt j hj).1; omega)).setCell (p := ⟨H, 1, none⟩) (show w.heap.size ≤ H by omega) (.slice (some ⟨g, 0, none⟩) (k + 1) cap))
              have hsz10 : w7.heap.size ≤ w10.heap.size := by have := G10.out.size; simp at this; omega
              clear D1 O10 G10 O9 Q9 H9 X9 N9 Q8 H8 O8 X8 N8 gk2 hne
              go_wp2_with fail
              go_roundw
              case rel => exact ⟨k + 1, some ⟨g, 0, none⟩, cap, by omega, by go_num, by rw [show 16 * (k + 1) = 16 * k + 8 + 8 by omega]; exact T0.out, T1.out, by rw [hsn.out, List.flatMap_append]; simpa [prC] using T2.out, T3.out, T4.out, by simp only [World.size_setCell]; exact hsz10⟩
              case measure => simp [intOf]; omega
          · obtain rfl : k = m := by omega
            have hpl : (prsK u k).length = k := by unfold prsK; simp
            have ZR := Lib.hid (zeros_any r (u.drop (16 * k)) false (by rw [List.length_drop]; omega) wr Q.out)
            unfold lfOk at HR
            rw [hok] at HR
            generalize hall : ((u.drop (16 * k)).all fun x => x == 0) = al at *
            go_wp2_with fail
            refine ZR.out.mono ?_
            rintro e w8 ⟨rfl, M⟩
            have X8 := Lib.hid (XX.out.mod M (fun q => by omega))
            have N8 := Lib.hid (NN.out.trans (modR_below M NN.out.size (by omega)))
            have H8 := Lib.hid (HB.out.mod M (fun q => by omega))
            have O8 := Lib.hid (own_mod OW.out M (fun i q => by omega))
            clear M Q HB OW XX NN ZR hall
            cases al with
            | false =>
              rw [if_neg (by simp)] at HR
              dsimp only at HR
              have c0 := X8.out.at_ (i := 0) _ rfl
              have c1 := X8.out.at_ (i := 1) _ rfl
              have f0 := X8.out.free 0
              have f1 := X8.out.free 1
              have Y := Lib.hid (two_set X8.out (.int .i64 0) (.slice none 0 0))
              have N := Lib.hid (Same.of_below (N8.out.trans (modR_below (two_mod _ w.heap.size (.int .i64 0) (.slice none 0 0)) N8.out.size (Nat.le_refl _))))
              clear X8 N8
              go_wp2_with fail
              generalize World.setCell _ _ _ = w20 at *
              have b0 := Y.out.at_ (i := 0) _ rfl
              have b1 := Y.out.at_ (i := 1) _ rfl
              exact bodyPost_ret (v := .tuple #[.agg #[.int .i64 0, .slice none 0 0], .int .i64 3]) (by simp [results, Tryz.results62, go_sem, b0, b1]) rfl (HR.out _ _ ⟨rfl, N.out⟩)
            | true =>
              rw [if_neg (by simp)] at HR
              dsimp only at HR
              have c0 := X8.out.at_ (i := 0) _ rfl
              have c1 := X8.out.at_ (i := 1) _ rfl
              have f0 := X8.out.free 0
              have f1 := X8.out.free 1
              have Y := Lib.hid (two_set X8.out (.int .i64 0) (.slice none 0 0))
              have N := Lib.hid (Same.of_below (N8.out.trans (modR_below (two_mod _ w.heap.size (.int .i64 0) (.slice none 0 0)) N8.out.size (Nat.le_refl _))))
              clear X8 N8
              go_wp2_with fail
              generalize World.setCell _ _ _ = w20 at *
              have b0 := Y.out.at_ (i := 0) _ rfl
              have b1 := Y.out.at_ (i := 1) _ rfl
              exact bodyPost_ret (v := .tuple #[.agg #[.int .i64 0, .slice none 0 0], .int .i64 3]) (by simp [results, Tryz.results62, go_sem, b0, b1]) rfl (HR.out _ _ ⟨rfl, N.out⟩)
    · have hzb : (zz == 0) = false := beq_eq_false_iff_ne.2 hz
      have hok : (decide (zz = 0) && decide (kd = 76) && decide ((n : Int) ≤ 15)) = false := by simp [hz]
      go_wp2_with fail
      go_loopw [48, 10] (fun vi _ wr => ∃ (k : Nat) (a : Option Addr) (c : Nat), k ≤ m ∧ vi = .int .i64 (k : Int) ∧ Blk wr r (rcells (u.drop (16 * k)) false) ∧ Blk wr H #[.int .i64 lv, .slice a k c] ∧ wr.ownsRow w7.heap.size 123 2 (.slice a k c) k ((prsK u k).flatMap prC) ∧ Blk wr w.heap.size #[.int .i64 0, .slice none 0 0] ∧ Below w.heap.size w wr ∧ w7.heap.size ≤ wr.heap.size) (fun vi _ _ => m - (intOf vi).toNat)
      case atStart => exact ⟨0, none, 0, by omega, rfl, by simpa using R7.out, Y7.out, World.ownsRow_nil _ _ _ _, X7.out, N7.out, Nat.le_refl _⟩
      case round =>
        obtain ⟨k, a, c, hk, rfl, hq, hh, ho, hx, hn7, hsz⟩ := hrel
        have Q := Lib.hid hq
        have HB := Lib.hid hh
        have OW := Lib.hid ho
        have XX := Lib.hid hx
        have NN := Lib.hid hn7
        clear hq hh ho hx hn7 R7 Y7 X7 N7
        by_cases hlt : k < m
        · have gk := Lib.hid (get_any r (u.drop (16 * k)) false 8 8 (by decide) wr Q.out (by rw [List.length_drop]; omega))
          rw [takeL_ok (by rw [List.length_drop]; omega), List.drop_drop] at gk
          dsimp only at gk
          have gk2 := Lib.hid (fun w' h => get_any r (u.drop (16 * k + 8)) false 8 8 (by decide) w' h (by rw [List.length_drop]; omega))
          rw [takeL_ok (by rw [List.length_drop]; omega), List.drop_drop] at gk2
          dsimp only at gk2
          have hsn := Lib.hid (show prsK u (k + 1) = prsK u k ++ [(leV ((u.drop (16 * k)).take 8), leV ((u.drop (16 * k + 8)).take 8))] by unfold prsK; rw [List.range_succ, List.map_append]; rfl)
          generalize leV ((u.drop (16 * k)).take 8) = ky at *
          generalize leV ((u.drop (16 * k + 8)).take 8) = vl at *
          go_wp2_with fail
          refine gk.out.mono ?_
          rintro e w8 ⟨rfl, hr, M⟩
          have Q8 := Lib.hid hr
          have H8 := Lib.hid (HB.out.mod M (fun q => by omega))
          have O8 := Lib.hid (own_mod OW.out M (fun i q => by omega))
          have X8 := Lib.hid (XX.out.mod M (fun q => by omega))
          have N8 := Lib.hid (NN.out.trans (modR_below M NN.out.size (by omega)))
          have hsz8 : w7.heap.size ≤ w8.heap.size := Nat.le_trans hsz M.size
          have e1 := H8.out.at_ (i := 1) _ rfl
          have f1 := H8.out.free 1
          have hne : (Value.slice a k c).ownBlock ≠ some H := fun e => by have := (O8.out.lt _ e).1; omega
          clear hr M Q HB OW XX NN gk
          go_wp2_with fail
          go_region_law (first | (go_simp; go_at_call 77; refine (gk2.out _ (Q8.out.drew)).mono ?_; rintro e w9 ⟨rfl, hr, M⟩; have Q9 := Lib.hid hr; have H9 := Lib.hid (H8.out.drew.mod M (fun q => by omega)); have O9 := Lib.hid (own_mod (own_drew O8.out) M (fun i q => by omega)); have X9 := Lib.hid (X8.out.drew.mod M (fun q => by omega)); have N9 := Lib.hid (N8.out.drew.trans (modR_below M N8.out.size (by omega))); have hsz9 : w7.heap.size ≤ w9.heap.size := Nat.le_trans hsz8 M.size; have e1 := H9.out.at_ (i := 1) _ rfl; have f1 := H9.out.free 1; have e1b := (H9.out.alloc (.cells #[.int .u64 ky, .int .u64 vl] 123)).at_ (i := 1) _ rfl; have f1b := (H9.out.alloc (.cells #[.int .u64 ky, .int .u64 vl] 123)).free 1; clear hr M) | (refine step_append_lies _ rfl (.tmp 53) (.tmp 58) 68 rfl w7.heap.size 123 i0 (.agg #[.int .u64 0, .int .u64 0]) 2 16 Tryz.underlying68 I0.out Z0.out Z1.out Z2.out rfl (by decide) (.slice a k c) k _ (by simp [Act.eval, Act.put]) (O9.out.alloc _) ⟨w9.heap.size, 0, none⟩ 1 1 [.int .u64 ky, .int .u64 vl] (by simp [Act.eval, Act.put]) rfl (pr_new w9 ky vl 123) (pr_cells ky vl) (by decide) (by unfold maxLen; omega) (by omega) (by simp; omega) (w9.heap.size + 1) (by simp) ?_; intro g cap w10 hown2 hgrow hat hgl; have D1 := blk_grown (H9.out.alloc _) hgrow hne; have e1 := D1.at_ (i := 1) _ rfl; have f1 := D1.free 1; have O10 := Lib.hid hown2; have G10 := Lib.hid hgrow; clear hown2 hgrow))
          all_goals
            have hg2 : w7.heap.size ≤ g := (O10.out.lt g rfl).1
            have T0 := Lib.hid ((blk_grown (Q9.out.alloc _) G10.out (fun e => by have := (O9.out.lt _ e).1; omega)).set_far (p := ⟨H, 1, none⟩) (show H ≠ r by omega) (.slice (some ⟨g, 0, none⟩) (k + 1) cap))
            have T1 := Lib.hid (show Blk _ H #[.int .i64 lv, .slice (some ⟨g, 0, none⟩) (k + 1) cap] from D1.set 1 (.slice (some ⟨g, 0, none⟩) (k + 1) cap))
            have T2 := Lib.hid (ownsRow_setCell_other (a := ⟨H, 1, none⟩) O10.out (fun e => by have e2 : g = H := (by simpa [Value.ownBlock] using e); omega) (.slice (some ⟨g, 0, none⟩) (k + 1) cap))
            have T3 := Lib.hid ((blk_grown (X9.out.alloc _) G10.out (fun e => by have := (O9.out.lt _ e).1; omega)).set_far (p := ⟨H, 1, none⟩) (show H ≠ w.heap.size by omega) (.slice (some ⟨g, 0, none⟩) (k + 1) cap))
            have T4 := Lib.hid (((N9.out.alloc (by omega) _).grown G10.out (by simp; omega) (fun j hj => by have := (O9.out.lt j hj).1; omega)).setCell (p := ⟨H, 1, none⟩) (show w.heap.size ≤ H by omega) (.slice (some ⟨g, 0, none⟩) (k + 1) cap))
            have hsz10 : w7.heap.size ≤ w10.heap.size := by have := G10.out.size; simp at this; omega
            clear D1 O10 G10 O9 Q9 H9 X9 N9 Q8 H8 O8 X8 N8 gk2 hne
            go_wp2_with fail
            go_roundw
            case rel => exact ⟨k + 1, some ⟨g, 0, none⟩, cap, by omega, by go_num, by rw [show 16 * (k + 1) = 16 * k + 8 + 8 by omega]; exact T0.out, T1.out, by rw [hsn.out, List.flatMap_append]; simpa [prC] using T2.out, T3.out, T4.out, by simp only [World.size_setCell]; exact hsz10⟩
            case measure => simp [intOf]; omega
        · obtain rfl : k = m := by omega
          have hpl : (prsK u k).length = k := by unfold prsK; simp
          have ZR := Lib.hid (zeros_any r (u.drop (16 * k)) false (by rw [List.length_drop]; omega) wr Q.out)
          unfold lfOk at HR
          rw [hok] at HR
          generalize hall : ((u.drop (16 * k)).all fun x => x == 0) = al at *
          go_wp2_with fail
          refine ZR.out.mono ?_
          rintro e w8 ⟨rfl, M⟩
          have X8 := Lib.hid (XX.out.mod M (fun q => by omega))
          have N8 := Lib.hid (NN.out.trans (modR_below M NN.out.size (by omega)))
          have H8 := Lib.hid (HB.out.mod M (fun q => by omega))
          have O8 := Lib.hid (own_mod OW.out M (fun i q => by omega))
          clear M Q HB OW XX NN ZR hall
          cases al with
          | false =>
            rw [if_neg (by simp)] at HR
            dsimp only at HR
            have c0 := X8.out.at_ (i := 0) _ rfl
            have c1 := X8.out.at_ (i := 1) _ rfl
            have f0 := X8.out.free 0
            have f1 := X8.out.free 1
            have Y := Lib.hid (two_set X8.out (.int .i64 0) (.slice none 0 0))
            have N := Lib.hid (Same.of_below (N8.out.trans (modR_below (two_mod _ w.heap.size (.int .i64 0) (.slice none 0 0)) N8.out.size (Nat.le_refl _))))
            clear X8 N8
            go_wp2_with fail
            generalize World.setCell _ _ _ = w20 at *
            have b0 := Y.out.at_ (i := 0) _ rfl
            have b1 := Y.out.at_ (i := 1) _ rfl
            exact bodyPost_ret (v := .tuple #[.agg #[.int .i64 0, .slice none 0 0], .int .i64 3]) (by simp [results, Tryz.results62, go_sem, b0, b1]) rfl (HR.out _ _ ⟨rfl, N.out⟩)
          | true =>
            rw [if_neg (by simp)] at HR
            dsimp only at HR
            have c0 := X8.out.at_ (i := 0) _ rfl
            have c1 := X8.out.at_ (i := 1) _ rfl
            have f0 := X8.out.free 0
            have f1 := X8.out.free 1
            have Y := Lib.hid (two_set X8.out (.int .i64 0) (.slice none 0 0))
            have N := Lib.hid (Same.of_below (N8.out.trans (modR_below (two_mod _ w.heap.size (.int .i64 0) (.slice none 0 0)) N8.out.size (Nat.le_refl _))))
            clear X8 N8
            go_wp2_with fail
            generalize World.setCell _ _ _ = w20 at *
            have b0 := Y.out.at_ (i := 0) _ rfl
            have b1 := Y.out.at_ (i := 1) _ rfl
            exact bodyPost_ret (v := .tuple #[.agg #[.int .i64 0, .slice none 0 0], .int .i64 3]) (by simp [results, Tryz.results62, go_sem, b0, b1]) rfl (HR.out _ _ ⟨rfl, N.out⟩)
end Go.Proofs.YtjkndfenniongaaGreatDoor
