import Derived.Test.YtdengmlidckkeaaGreatDoorOrdZA
import Derived.Test.YtdengmlidckkeaaGreatDoorOrdZ
set_option linter.unusedSimpArgs false
set_option linter.unusedVariables false
namespace Go.Proofs.YtdengmlidckkeaaGreatDoor
open Go Go.RowKit

instance (x y : OW) : Decidable (x = y) := if h : x.k = y.k ∧ x.ns = y.ns ∧ x.ts = y.ts then isTrue (OW.ext' h.1 h.2.1 h.2.2) else isFalse fun e => h (by subst e; exact ⟨rfl, rfl, rfl⟩)
/-- Two orders' form: the same. -/
theorem sameO_eq (x y : OW) : sameO ((x.k : Int) + 1) ((y.k : Int) + 1) x.ns y.ns x.ts y.ts = decide (x = y) := by
  unfold sameO
  by_cases h : x = y
  · subst h; simp
  · rw [decide_eq_false h]
    by_cases h1 : x.k = y.k
    · by_cases h2 : x.ns = y.ns
      · have h3 : ¬ x.ts = y.ts := fun h3 => h (OW.ext' h1 h2 h3)
        simp [h3]
      · simp [h2]
    · have : ¬ ((x.k : Int) + 1 = (y.k : Int) + 1) := by omega
      simp [this]
end Go.Proofs.YtdengmlidckkeaaGreatDoor
namespace Go.Proofs.YtdengmlidckkeaaGreatDoor
open Go Go.RowKit
theorem lens_le (B : Nat) : ∀ (xs : List (List UInt8)), (∀ x ∈ xs, x.length ≤ B) → Lib.lens xs ≤ B * xs.length
  | [], _ => Nat.zero_le _
  | a :: l, h => by
    have h1 := h a (by simp)
    have h2 := lens_le B l fun x hx => h x (by simp [hx])
    unfold Lib.lens at *
    rw [List.map_cons, List.sum_cons, List.length_cons, Nat.mul_add]; omega
theorem text_len (o : OW) (hf : o.form) (hfit : o.fits = true) : (textO o).length ≤ 10000 := by
  have hj := hf.lt
  have hnl3 : o.ns.length ≤ 3 ∧ o.ts.length ≤ 3 := by
    have h1 := hf.nn
    have h2 := hf.nd
    have h3 : ∀ k, k < 15 → nN k ≤ 3 ∧ nD k ≤ 3 := by decide
    have := h3 o.k hj
    omega
  unfold textO
  rw [Lib.join_length]
  have hi : ∀ x ∈ (o.ns.map Lib.itoa ++ o.ts.map runesL), x.length ≤ 1600 := by
    intro x hx
    rcases List.mem_append.1 hx with q | q
    · obtain ⟨n, hn, rfl⟩ := List.mem_map.1 q
      have := hf.i64 n hn
      have := Lib.itoa_length_le n this.1 this.2
      omega
    · obtain ⟨t, ht, rfl⟩ := List.mem_map.1 q
      have := runes_le t
      have h2 := List.all_eq_true.1 hfit t ht
      have h3 : t.length ≤ 512 := of_decide_eq_true h2
      omega
  have hlen : (o.ns.map Lib.itoa ++ o.ts.map runesL).length ≤ 6 := by simp; omega
  have h1 := lens_le 1600 _ hi
  have hw : (wordL o.k).length ≤ 7 := by
    have : ∀ k, k < 15 → (wordL k).length ≤ 7 := by decide
    exact this _ hj
  have e : Lib.lens (wordL o.k :: (o.ns.map Lib.itoa ++ o.ts.map runesL)) = (wordL o.k).length + Lib.lens (o.ns.map Lib.itoa ++ o.ts.map runesL) := by unfold Lib.lens; rw [List.map_cons, List.sum_cons]
  rw [e, List.length_singleton]; omega
/-- A told order is read as it was. -/
theorem parse_told (o : OW) (hf : o.form) (hfit : o.fits = true) (w : World) (hL : LibOK w) : Calls Tryz.prog 17 #[.string ⟨(textO o).toArray⟩] w fun e w' => e = .returned (.tuple #[ordW o, .int .i64 0]) ∧ Same w w' := by
  have := parse_any (textO o) (by have := text_len o hf hfit; omega) w hL
  rw [parse_text o hf hfit] at this
  exact this
theorem ord_small (o : OW) (hf : o.form) : o.ns.length ≤ 1000 ∧ o.ts.length ≤ 1000 := by
  have h1 := hf.nn
  have h2 := hf.nd
  have h3 : ∀ k, k < 15 → nN k ≤ 3 ∧ nD k ≤ 3 := by decide
  have := h3 o.k hf.lt
  omega
/-- What form hands back of two orders, compared. -/
theorem same_ord (x y : OW) (fx : x.form) (fy : y.form) (a1 a2 b1 b2 : Option Addr) (c1 c2 d1 d2 : Nat) (w : World) (hn1 : RowAt w a1 (x.ns.map (Value.int .i64))) (hn2 : RowAt w a2 (y.ns.map (Value.int .i64))) (ht1 : RowAt w b1 (x.ts.map strV)) (ht2 : RowAt w b2 (y.ts.map strV)) :
    Calls Tryz.prog 13 #[.agg #[.int .i64 ((x.k : Int) + 1), .slice a1 (x.ns.map (Value.int .i64)).length c1, .slice b1 (x.ts.map strV).length d1], .agg #[.int .i64 ((y.k : Int) + 1), .slice a2 (y.ns.map (Value.int .i64)).length c2, .slice b2 (y.ts.map strV).length d2]] w fun e w' => e = .returned (.bool (decide (x = y))) ∧ Same w w' := by
  have h := same_any ((x.k : Int) + 1) ((y.k : Int) + 1) x.ns y.ns x.ts y.ts a1 a2 b1 b2 c1 c2 d1 d2 (ord_small x fx).1 (ord_small y fy).1 (ord_small x fx).2 (ord_small y fy).2 w hn1 hn2 ht1 ht2
  rw [sameO_eq] at h
  simp only [List.length_map]
  exact h
end Go.Proofs.YtdengmlidckkeaaGreatDoor
namespace Go.Proofs.YtdengmlidckkeaaGreatDoor
open Go Go.RowKit
theorem row_take {w : World} {g : Nat} (cs : List Value) (n : Nat) (h : Blk w g cs.toArray) : RowAt w (some ⟨g, 0, none⟩) (cs.take n) := by
  intro _
  refine ⟨g, 0, rfl, h.lt, fun i v hi => ?_⟩
  rw [Nat.zero_add]
  refine (h.cell i).trans ?_
  rw [List.getElem?_toArray]
  rw [List.getElem?_take] at hi
  split at hi
  · exact hi
  · cases hi
theorem row_takeN (w : World) (o : Obj) (cs : List Value) (t : TypeId) (n : Nat) : RowAt ((w.alloc o).alloc (.cells cs.toArray t)) (some ⟨w.heap.size + 1, 0, none⟩) (cs.take n) := by
  have := row_take (w := (w.alloc o).alloc (.cells cs.toArray t)) cs n (Blk.new (w.alloc o) cs.toArray t)
  rwa [World.size_alloc] at this
theorem map_take' {α β : Type} (f : α → β) (l : List α) (n : Nat) : (l.take n).map f = (l.map f).take n := List.map_take
set_option maxRecDepth 10000 in
set_option maxHeartbeats 4000000 in
theorem numbers_any (z a b c : Int) (w : World) : Calls Tryz.prog 8 #[.int .i64 z, .int .i64 a, .int .i64 b, .int .i64 c] w fun e w' => ∃ p q, e = .returned (.slice p (nN (kin z)) q) ∧ RowAt w' p ((([a, b, c] : List _).take (nN (kin z))).map (Value.int .i64)) ∧ Same w w' := by
  refine opq fun R HR => ?_
  have hk := kin_lt z
  have hki := kin_int z
  rw [map_take'] at HR
  generalize kin z = k at *
  rcases kinds15 hk with rfl | rfl | rfl | rfl | rfl | rfl | rfl | rfl | rfl | rfl | rfl | rfl | rfl | rfl | rfl
  · have hz : (IntKind.u64.wrap z).tmod 15 = 0 := hki
    clear hki hk
    go_enter Tryz.func8, Tryz.ntmps8
    go_wp2
    exact HR.out _ _ ⟨_, _, rfl, row_takeN _ _ [.int .i64 a, .int .i64 b, .int .i64 c] _ _, ((Mod.refl _ _).alloc _).alloc _⟩
  · have hz : (IntKind.u64.wrap z).tmod 15 = 1 := hki
    clear hki hk
    go_enter Tryz.func8, Tryz.ntmps8
    go_wp2
    exact HR.out _ _ ⟨_, _, rfl, row_takeN _ _ [.int .i64 a, .int .i64 b, .int .i64 c] _ _, ((Mod.refl _ _).alloc _).alloc _⟩
  · have hz : (IntKind.u64.wrap z).tmod 15 = 2 := hki
    clear hki hk
    go_enter Tryz.func8, Tryz.ntmps8
    go_wp2
    exact HR.out _ _ ⟨_, _, rfl, row_takeN _ _ [.int .i64 a, .int .i64 b, .int .i64 c] _ _, ((Mod.refl _ _).alloc _).alloc _⟩
  · have hz : (IntKind.u64.wrap z).tmod 15 = 3 := hki
    clear hki hk
    go_enter Tryz.func8, Tryz.ntmps8
    go_wp2
    exact HR.out _ _ ⟨_, _, rfl, row_takeN _ _ [.int .i64 a, .int .i64 b, .int .i64 c] _ _, ((Mod.refl _ _).alloc _).alloc _⟩
  · have hz : (IntKind.u64.wrap z).tmod 15 = 4 := hki
    clear hki hk
    go_enter Tryz.func8, Tryz.ntmps8
    go_wp2
    exact HR.out _ _ ⟨_, _, rfl, row_takeN _ _ [.int .i64 a, .int .i64 b, .int .i64 c] _ _, ((Mod.refl _ _).alloc _).alloc _⟩
  · have hz : (IntKind.u64.wrap z).tmod 15 = 5 := hki
    clear hki hk
    go_enter Tryz.func8, Tryz.ntmps8
    go_wp2
    exact HR.out _ _ ⟨_, _, rfl, row_takeN _ _ [.int .i64 a, .int .i64 b, .int .i64 c] _ _, ((Mod.refl _ _).alloc _).alloc _⟩
  · have hz : (IntKind.u64.wrap z).tmod 15 = 6 := hki
    clear hki hk
    go_enter Tryz.func8, Tryz.ntmps8
    go_wp2
    exact HR.out _ _ ⟨_, _, rfl, row_takeN _ _ [.int .i64 a, .int .i64 b, .int .i64 c] _ _, ((Mod.refl _ _).alloc _).alloc _⟩
  · have hz : (IntKind.u64.wrap z).tmod 15 = 7 := hki
    clear hki hk
    go_enter Tryz.func8, Tryz.ntmps8
    go_wp2
    exact HR.out _ _ ⟨_, _, rfl, row_takeN _ _ [.int .i64 a, .int .i64 b, .int .i64 c] _ _, ((Mod.refl _ _).alloc _).alloc _⟩
  · have hz : (IntKind.u64.wrap z).tmod 15 = 8 := hki
    clear hki hk
    go_enter Tryz.func8, Tryz.ntmps8
    go_wp2
    exact HR.out _ _ ⟨_, _, rfl, row_takeN _ _ [.int .i64 a, .int .i64 b, .int .i64 c] _ _, ((Mod.refl _ _).alloc _).alloc _⟩
  · have hz : (IntKind.u64.wrap z).tmod 15 = 9 := hki
    clear hki hk
    go_enter Tryz.func8, Tryz.ntmps8
    go_wp2
    exact HR.out _ _ ⟨_, _, rfl, row_takeN _ _ [.int .i64 a, .int .i64 b, .int .i64 c] _ _, ((Mod.refl _ _).alloc _).alloc _⟩
  · have hz : (IntKind.u64.wrap z).tmod 15 = 10 := hki
    clear hki hk
    go_enter Tryz.func8, Tryz.ntmps8
    go_wp2
    exact HR.out _ _ ⟨_, _, rfl, row_takeN _ _ [.int .i64 a, .int .i64 b, .int .i64 c] _ _, ((Mod.refl _ _).alloc _).alloc _⟩
  · have hz : (IntKind.u64.wrap z).tmod 15 = 11 := hki
    clear hki hk
    go_enter Tryz.func8, Tryz.ntmps8
    go_wp2
    exact HR.out _ _ ⟨_, _, rfl, row_takeN _ _ [.int .i64 a, .int .i64 b, .int .i64 c] _ _, ((Mod.refl _ _).alloc _).alloc _⟩
  · have hz : (IntKind.u64.wrap z).tmod 15 = 12 := hki
    clear hki hk
    go_enter Tryz.func8, Tryz.ntmps8
    go_wp2
    exact HR.out _ _ ⟨_, _, rfl, row_takeN _ _ [.int .i64 a, .int .i64 b, .int .i64 c] _ _, ((Mod.refl _ _).alloc _).alloc _⟩
  · have hz : (IntKind.u64.wrap z).tmod 15 = 13 := hki
    clear hki hk
    go_enter Tryz.func8, Tryz.ntmps8
    go_wp2
    exact HR.out _ _ ⟨_, _, rfl, row_takeN _ _ [.int .i64 a, .int .i64 b, .int .i64 c] _ _, ((Mod.refl _ _).alloc _).alloc _⟩
  · have hz : (IntKind.u64.wrap z).tmod 15 = 14 := hki
    clear hki hk
    go_enter Tryz.func8, Tryz.ntmps8
    go_wp2
    exact HR.out _ _ ⟨_, _, rfl, row_takeN _ _ [.int .i64 a, .int .i64 b, .int .i64 c] _ _, ((Mod.refl _ _).alloc _).alloc _⟩
set_option maxRecDepth 10000 in
set_option maxHeartbeats 4000000 in
theorem texts_any (z : Int) (s t u : List UInt8) (w : World) : Calls Tryz.prog 9 #[.int .i64 z, .string ⟨s.toArray⟩, .string ⟨t.toArray⟩, .string ⟨u.toArray⟩] w fun e w' => ∃ p q, e = .returned (.slice p (nD (kin z)) q) ∧ RowAt w' p ((([s, t, u] : List _).take (nD (kin z))).map strV) ∧ Same w w' := by
  refine opq fun R HR => ?_
  have hk := kin_lt z
  have hki := kin_int z
  rw [map_take'] at HR
  generalize kin z = k at *
  rcases kinds15 hk with rfl | rfl | rfl | rfl | rfl | rfl | rfl | rfl | rfl | rfl | rfl | rfl | rfl | rfl | rfl
  · have hz : (IntKind.u64.wrap z).tmod 15 = 0 := hki
    clear hki hk
    go_enter Tryz.func9, Tryz.ntmps9
    go_wp2
    exact HR.out _ _ ⟨_, _, rfl, row_takeN _ _ [strV s, strV t, strV u] _ _, ((Mod.refl _ _).alloc _).alloc _⟩
  · have hz : (IntKind.u64.wrap z).tmod 15 = 1 := hki
    clear hki hk
    go_enter Tryz.func9, Tryz.ntmps9
    go_wp2
    exact HR.out _ _ ⟨_, _, rfl, row_takeN _ _ [strV s, strV t, strV u] _ _, ((Mod.refl _ _).alloc _).alloc _⟩
  · have hz : (IntKind.u64.wrap z).tmod 15 = 2 := hki
    clear hki hk
    go_enter Tryz.func9, Tryz.ntmps9
    go_wp2
    exact HR.out _ _ ⟨_, _, rfl, row_takeN _ _ [strV s, strV t, strV u] _ _, ((Mod.refl _ _).alloc _).alloc _⟩
  · have hz : (IntKind.u64.wrap z).tmod 15 = 3 := hki
    clear hki hk
    go_enter Tryz.func9, Tryz.ntmps9
    go_wp2
    exact HR.out _ _ ⟨_, _, rfl, row_takeN _ _ [strV s, strV t, strV u] _ _, ((Mod.refl _ _).alloc _).alloc _⟩
  · have hz : (IntKind.u64.wrap z).tmod 15 = 4 := hki
    clear hki hk
    go_enter Tryz.func9, Tryz.ntmps9
    go_wp2
    exact HR.out _ _ ⟨_, _, rfl, row_takeN _ _ [strV s, strV t, strV u] _ _, ((Mod.refl _ _).alloc _).alloc _⟩
  · have hz : (IntKind.u64.wrap z).tmod 15 = 5 := hki
    clear hki hk
    go_enter Tryz.func9, Tryz.ntmps9
    go_wp2
    exact HR.out _ _ ⟨_, _, rfl, row_takeN _ _ [strV s, strV t, strV u] _ _, ((Mod.refl _ _).alloc _).alloc _⟩
  · have hz : (IntKind.u64.wrap z).tmod 15 = 6 := hki
    clear hki hk
    go_enter Tryz.func9, Tryz.ntmps9
    go_wp2
    exact HR.out _ _ ⟨_, _, rfl, row_takeN _ _ [strV s, strV t, strV u] _ _, ((Mod.refl _ _).alloc _).alloc _⟩
  · have hz : (IntKind.u64.wrap z).tmod 15 = 7 := hki
    clear hki hk
    go_enter Tryz.func9, Tryz.ntmps9
    go_wp2
    exact HR.out _ _ ⟨_, _, rfl, row_takeN _ _ [strV s, strV t, strV u] _ _, ((Mod.refl _ _).alloc _).alloc _⟩
  · have hz : (IntKind.u64.wrap z).tmod 15 = 8 := hki
    clear hki hk
    go_enter Tryz.func9, Tryz.ntmps9
    go_wp2
    exact HR.out _ _ ⟨_, _, rfl, row_takeN _ _ [strV s, strV t, strV u] _ _, ((Mod.refl _ _).alloc _).alloc _⟩
  · have hz : (IntKind.u64.wrap z).tmod 15 = 9 := hki
    clear hki hk
    go_enter Tryz.func9, Tryz.ntmps9
    go_wp2
    exact HR.out _ _ ⟨_, _, rfl, row_takeN _ _ [strV s, strV t, strV u] _ _, ((Mod.refl _ _).alloc _).alloc _⟩
  · have hz : (IntKind.u64.wrap z).tmod 15 = 10 := hki
    clear hki hk
    go_enter Tryz.func9, Tryz.ntmps9
    go_wp2
    exact HR.out _ _ ⟨_, _, rfl, row_takeN _ _ [strV s, strV t, strV u] _ _, ((Mod.refl _ _).alloc _).alloc _⟩
  · have hz : (IntKind.u64.wrap z).tmod 15 = 11 := hki
    clear hki hk
    go_enter Tryz.func9, Tryz.ntmps9
    go_wp2
    exact HR.out _ _ ⟨_, _, rfl, row_takeN _ _ [strV s, strV t, strV u] _ _, ((Mod.refl _ _).alloc _).alloc _⟩
  · have hz : (IntKind.u64.wrap z).tmod 15 = 12 := hki
    clear hki hk
    go_enter Tryz.func9, Tryz.ntmps9
    go_wp2
    exact HR.out _ _ ⟨_, _, rfl, row_takeN _ _ [strV s, strV t, strV u] _ _, ((Mod.refl _ _).alloc _).alloc _⟩
  · have hz : (IntKind.u64.wrap z).tmod 15 = 13 := hki
    clear hki hk
    go_enter Tryz.func9, Tryz.ntmps9
    go_wp2
    exact HR.out _ _ ⟨_, _, rfl, row_takeN _ _ [strV s, strV t, strV u] _ _, ((Mod.refl _ _).alloc _).alloc _⟩
  · have hz : (IntKind.u64.wrap z).tmod 15 = 14 := hki
    clear hki hk
    go_enter Tryz.func9, Tryz.ntmps9
    go_wp2
    exact HR.out _ _ ⟨_, _, rfl, row_takeN _ _ [strV s, strV t, strV u] _ _, ((Mod.refl _ _).alloc _).alloc _⟩
theorem numbers_bad (o : OW) (hf : o.form) (hfit : o.fits = false) (w : World) : Calls Tryz.prog 15 #[ordW o] w fun e w' => e = .returned (.slice none 0 0) ∧ Same w w' := by
  refine opq fun R HR => ?_
  have HP := Lib.hid (parts_all o hf)
  rw [hfit] at HP
  unfold ordW at HP ⊢
  generalize ordC o = cs at *
  generalize kT o.k = T at *
  generalize (o.ns.map (Value.int .i64)).length = n at *
  generalize (o.ts.map strV).length = m at *
  go_enter Tryz.func15, Tryz.ntmps15
  go_wp2_with fail
  refine (HP.out _).mono ?_
  rintro e w1 ⟨a1, c1, a2, c2, rfl, r1, r2, M⟩
  have S1 := Lib.hid M
  clear r1 r2 M HP
  go_wp2
  exact HR.out _ _ ⟨rfl, S1.out⟩
theorem data_bad (o : OW) (hf : o.form) (hfit : o.fits = false) (w : World) : Calls Tryz.prog 16 #[ordW o] w fun e w' => e = .returned (.slice none 0 0) ∧ Same w w' := by
  refine opq fun R HR => ?_
  have HP := Lib.hid (parts_all o hf)
  rw [hfit] at HP
  unfold ordW at HP ⊢
  generalize ordC o = cs at *
  generalize kT o.k = T at *
  generalize (o.ns.map (Value.int .i64)).length = n at *
  generalize (o.ts.map strV).length = m at *
  go_enter Tryz.func16, Tryz.ntmps16
  go_wp2_with fail
  refine (HP.out _).mono ?_
  rintro e w1 ⟨a1, c1, a2, c2, rfl, r1, r2, M⟩
  have S1 := Lib.hid M
  clear r1 r2 M HP
  go_wp2
  exact HR.out _ _ ⟨rfl, S1.out⟩
end Go.Proofs.YtdengmlidckkeaaGreatDoor
