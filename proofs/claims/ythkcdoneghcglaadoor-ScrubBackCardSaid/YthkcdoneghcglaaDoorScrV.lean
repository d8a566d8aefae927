import Derived.Test.YthkcdoneghcglaaDoorScrU
import Derived.Lib.Builder
import Derived.Lib.ItoaLen
set_option linter.unusedSimpArgs false
set_option linter.unusedVariables false
/- scrub.Text. -/
namespace Go.Proofs.YthkcdoneghcglaaDoor
open Go Go.RowKit
theorem lineT_join (x : Sm) : Lib.join [Lib.itoa x.c, Lib.itoa x.t, Lib.itoa x.s, hexL x.h] [32] = lineT x := by
  unfold lineT
  rw [Lib.join_cons, joinTail_cons, joinTail_cons, joinTail_cons]
  simp [Lib.joinTail]
theorem textL_take {L : List Sm} {k : Nat} {x : Sm} (h : L[k]? = some x) : textL (L.take (k + 1)) = textL (L.take k) ++ (lineT x ++ [10]) := by
  unfold textL
  rw [List.take_add_one, h, List.flatMap_append]; simp
theorem grown_same {w w' : World} (M : Same w w') : w.grownBy w' none := ⟨M.os, M.tape, M.output, M.size, fun k hk _ => M.block k hk (fun q => q)⟩
theorem builderAt_same {T e : TypeId} {B b : Nat} {p : Value} {bs : List Value} {w w' : World} (h : Lib.BuilderAtF T e B b p bs w) (M : Same w w') : Lib.BuilderAtF T e B b p bs w' := by
  have hlt := h.lt
  obtain ⟨hB, v, hb, hown, hne⟩ := h
  exact ⟨hB, v, (M.block b hlt (fun q => q)).trans hb, hown.kept (grown_same M) (by cases hv : v.ownBlock <;> simp), hne⟩
theorem builder_same {T e : TypeId} {B b : Nat} {bs : List Value} {w w' : World} (h : Lib.IsBuilderF T e B b bs w) (M : Same w w') : Lib.IsBuilderF T e B b bs w' :=
  h.elim (fun x => .inl (builderAt_same x M)) (fun x => .inr (builderAt_same x M))
theorem builder_lt {T e : TypeId} {B b : Nat} {bs : List Value} {w : World} (h : Lib.IsBuilderF T e B b bs w) : b < w.heap.size := h.elim (fun x => x.lt) (fun x => x.lt)
theorem lineT_len (x : Sm) (h1 : I64 x.c) (h2 : I64 x.t) (h3 : I64 x.s) : (lineT x).length ≤ 80 := by
  have a := Lib.itoa_length_le x.c h1.1 h1.2
  have b := Lib.itoa_length_le x.t h2.1 h2.2
  have c := Lib.itoa_length_le x.s h3.1 h3.2
  unfold lineT
  simp only [List.length_append, List.length_cons, hexL_len]; omega
theorem can_i64 {x : Sm} (h : can x = true) : I64 x.c ∧ I64 x.t ∧ I64 x.s := by
  have := (can_iff x).1 h
  exact ⟨by unfold I64; omega, by unfold I64; omega, by unfold I64; omega⟩
theorem textL_len : ∀ (L : List Sm) (n : Nat), L.length ≤ n → (∀ y ∈ L, can y = true) → (textL L).length ≤ 90 * n
  | [], n, _, _ => by simp [textL]
  | x :: L, 0, h, _ => by simp at h
  | x :: L, n + 1, h, hc => by
    have ih := textL_len L n (by simp at h; omega) fun y hy => hc y (by simp [hy])
    have hx := can_i64 (hc x (by simp))
    have hl := lineT_len x hx.1 hx.2.1 hx.2.2
    have e : textL (x :: L) = (lineT x ++ [10]) ++ textL L := by unfold textL; simp
    rw [e, List.length_append, List.length_append, List.length_singleton]; omega
theorem text_lens {xc xt xs : Int} {xh : Nat} {T : List UInt8} (h1 : I64 xc) (h2 : I64 xt) (h3 : I64 xs) (hT : T.length ≤ 90 * 1000) : (lineT ⟨xc, xt, xs, xh⟩).length ≤ 80 ∧ T.length ≤ 90000 ∧ (Lib.itoa xc).length ≤ 21 ∧ (Lib.itoa xt).length ≤ 21 ∧ (Lib.itoa xs).length ≤ 21 :=
  ⟨lineT_len _ h1 h2 h3, hT, Lib.itoa_length_le _ h1.1 h1.2, Lib.itoa_length_le _ h2.1 h2.2, Lib.itoa_length_le _ h3.1 h3.2⟩
theorem four_cells (w : World) (a b c d : Value) (t : TypeId) (i : Nat) : (w.alloc (.cells #[a, b, c, d] t)).cell? ⟨w.heap.size, i, none⟩ = #[a, b, c, d][i]? := (Blk.new w #[a, b, c, d] t).cell i
theorem join4 (a b c d : List UInt8) (hl : a.length + b.length + c.length + d.length ≤ 1000000) (w : World) :
    Calls Tryd.prog 35 #[.slice (some ⟨w.heap.size, 0, none⟩) 4 4, .string ⟨#[32]⟩] (w.alloc (.cells #[.string ⟨a.toArray⟩, .string ⟨b.toArray⟩, .string ⟨c.toArray⟩, .string ⟨d.toArray⟩] 9)) fun e w' => e = .returned (.string ⟨(Lib.join [a, b, c, d] [32]).toArray⟩) ∧ Same (w.alloc (.cells #[.string ⟨a.toArray⟩, .string ⟨b.toArray⟩, .string ⟨c.toArray⟩, .string ⟨d.toArray⟩] 9)) w' := by
  refine (Tryd.strings_Join w.heap.size 0 4 [⟨a.toArray⟩, ⟨b.toArray⟩, ⟨c.toArray⟩, ⟨d.toArray⟩] ⟨#[32]⟩ _ (fun j x hx => ?_) (by simp) (by simp) (by simp) ?_).mono ?_
  · rw [Nat.zero_add, four_cells]
    match j, hx with
    | 0, hx => simp at hx; subst hx; rfl
    | 1, hx => simp at hx; subst hx; rfl
    | 2, hx => simp at hx; subst hx; rfl
    | 3, hx => simp at hx; subst hx; rfl
  · show (Lib.join [a, b, c, d] [32]).length ≤ _
    rw [Lib.join_cons, joinTail_cons, joinTail_cons, joinTail_cons]
    simp [Lib.joinTail]; omega
  · rintro e w' ⟨rfl, hb⟩
    exact ⟨rfl, Same.of_below hb⟩
set_option maxRecDepth 10000 in
set_option maxHeartbeats 4000000 in
theorem text_any (a : Option Addr) (cap : Nat) (L : List Sm) (w : World) (hl : L.length ≤ 1000) (hI : Sms w a L) (hwf : ∀ x ∈ L, x.h < 4294967296) (hL : LibOK w) :
    Calls Tryd.prog 13 #[.slice a L.length cap] w fun e w' => e = .returned (strV (if goodL L = true then textL L else [])) ∧ Same w w' := by
  refine opq fun R HR => ?_
  have HI := Lib.hid hI
  have HL := Lib.hid hL
  have HWF := Lib.hid hwf
  have HG := Lib.hid (isGood_any a cap L w (by omega) hI)
  obtain ⟨n, hn⟩ : ∃ n, L.length = n := ⟨_, rfl⟩
  rw [hn] at hl HG ⊢
  have HN := Lib.hid hn
  clear hn hI hL hwf
  go_enter Tryd.func13, Tryd.ntmps13
  go_wp2_with fail
  refine HG.out.mono ?_
  rintro e w1 ⟨rfl, M1⟩
  have K1 := Lib.hid M1
  clear M1 HG
  cases hg : goodL L with
  | false =>
    rw [hg, if_neg (by decide)] at HR
    go_wp2
    exact HR.out _ _ ⟨rfl, K1.out⟩
  | true =>
    rw [hg, if_pos rfl] at HR
    have HCan := Lib.hid (good_can hg)
    clear hg
    go_wp2_with fail
    go_loopw [11] (fun i wr => ∃ k : Nat, k ≤ n ∧ i = .int .i64 k ∧ Lib.IsBuilderF 74 5 w1.heap.size w1.heap.size (Lib.byteCells (textL (L.take k))) wr ∧ Same w1 wr) (fun i _ => n - (intOf i).toNat)
    case atStart => exact ⟨0, by omega, rfl, Lib.IsBuilderF.of (Lib.fresh_isBuilder 74 5 w1), (Mod.refl _ _).alloc _⟩
    case round =>
      obtain ⟨k, hk, rfl, hB, hM⟩ := hrel
      have J1 := Lib.hid hB
      have J2 := Lib.hid hM
      clear hB hM
      by_cases hlt : k < n
      · obtain ⟨b1, o1, rfl, hb1, hc1⟩ := HI.out (by rw [HN.out]; omega)
        have hkL : k < L.length := by rw [HN.out]; exact hlt
        obtain ⟨x, hx⟩ : ∃ x, L[k]? = some x := ⟨_, List.getElem?_eq_getElem hkL⟩
        obtain ⟨e0, e1, e2, e3⟩ := cell4_same (K1.out.same J2.out) hb1 (hc1 k x hx)
        have HX := Lib.hid (HCan.out x (List.mem_of_getElem? hx))
        have HW := Lib.hid (HWF.out x (List.mem_of_getElem? hx))
        have HT := Lib.hid (textL_take hx)
        have HLT := Lib.hid (lineT_join x)
        clear hx hc1
        obtain ⟨xc, xt, xs, xh⟩ := x
        dsimp only at e0 e1 e2 e3 HLT HW
        have hcan := (can_iff _).1 HX.out
        dsimp only at hcan
        have HI0 := Lib.hid (show I64 xc ∧ I64 xt ∧ I64 xs ∧ xh < 4294967296 from ⟨by unfold I64; omega, by unfold I64; omega, by unfold I64; omega, HW.out⟩)
        have HLen := Lib.hid (show (lineT ⟨xc, xt, xs, xh⟩).length ≤ 80 ∧ (textL (L.take k)).length ≤ 90000 ∧ (Lib.itoa xc).length ≤ 21 ∧ (Lib.itoa xt).length ≤ 21 ∧ (Lib.itoa xs).length ≤ 21 from text_lens HI0.out.1 HI0.out.2.1 HI0.out.2.2.1 (textL_len _ 1000 (by rw [List.length_take]; omega) (fun y hy => HCan.out y (List.mem_of_mem_take hy))))
        have BA := Lib.hid (Blk.new wr #[.int .i64 xc, .int .i64 xt, .int .i64 xs, .int .u32 (xh : Int)] 46)
        have J3 := Lib.hid (J2.out.alloc (.cells #[.int .i64 xc, .int .i64 xt, .int .i64 xs, .int .u32 (xh : Int)] 46))
        have JB := Lib.hid (J1.out.alloc (.cells #[.int .i64 xc, .int .i64 xt, .int .i64 xs, .int .u32 (xh : Int)] 46))
        have HL2 := Lib.hid (HL.out.same (K1.out.same J3.out))
        have hYw : w1.heap.size < wr.heap.size := builder_lt J1.out
        have hYb := Lib.hid (fun (w' : World) (M : Same (wr.alloc (.cells #[.int .i64 xc, .int .i64 xt, .int .i64 xs, .int .u32 (xh : Int)] 46)) w') => (M.block wr.heap.size (by simp) (fun q => q)).trans (heap_new wr (.cells #[.int .i64 xc, .int .i64 xt, .int .i64 xs, .int .u32 (xh : Int)] 46)))
        clear hcan HX HW
        go_wp2_with fail
        generalize wr.alloc _ = W at *
        generalize lineT ⟨xc, xt, xs, xh⟩ = lt at *
        generalize textL (L.take k) = tk at *
        generalize hYY : wr.heap.size = Y at *
        have hc0 := BA.out.cell
        refine wp_region_held_drew (S := (fun w' => ∀ i, w'.cell? ⟨Y, i, none⟩ = #[Value.int .i64 xc, .int .i64 xt, .int .i64 xs, .int .u32 (xh : Int)][i]?)) (by kernel_rfl) (by (try dsimp only); first | exact hc0 | exact hc1 | exact hc2 | exact hc3 | exact hc4 | exact hc5 | exact hc6 | exact hc7 | assumption) (fun hHeld => ?_)
        refine wpAnyH_take (i := 0) (v := ?_) rfl (by kernel_rfl) (by kernel_rfl) (by kernel_rfl) (fun _ _ _ h => h) (Or.inl ⟨by rfl, ?_⟩) (by assumption) ?_
        rotate_left
        · intro w hSw
          try dsimp only at hSw
          go_simp
          try with_reducible rfl
        try simp only [List.getElem_toArray, List.getElem_cons_succ, List.getElem_cons_zero, Act.put, List.setIfInBounds_toArray, List.set_cons_zero, List.set_cons_succ]
        refine wpAnyH_take (i := 3) (v := ?_) rfl (by kernel_rfl) (by kernel_rfl) (by kernel_rfl) (fun _ _ _ h => h) (Or.inl ⟨by rfl, ?_⟩) (by assumption) ?_
        rotate_left
        · intro w hSw
          try dsimp only at hSw
          go_simp
          try with_reducible rfl
        try simp only [List.getElem_toArray, List.getElem_cons_succ, List.getElem_cons_zero, Act.put, List.setIfInBounds_toArray, List.set_cons_zero, List.set_cons_succ]
        refine wpAnyH_take (i := 4) (v := ?_) rfl (by kernel_rfl) (by kernel_rfl) (by kernel_rfl) (fun _ _ _ h => h) (Or.inl ⟨by rfl, ?_⟩) (by assumption) ?_
        rotate_left
        · intro w hSw
          try dsimp only at hSw
          go_simp
          try with_reducible rfl
        try simp only [List.getElem_toArray, List.getElem_cons_succ, List.getElem_cons_zero, Act.put, List.setIfInBounds_toArray, List.set_cons_zero, List.set_cons_succ]
        refine wpAnyH_take (i := 7) (v := ?_) rfl (by kernel_rfl) (by kernel_rfl) (by kernel_rfl) (fun _ _ _ h => h) (Or.inl ⟨by rfl, ?_⟩) (by assumption) ?_
        rotate_left
        · intro w hSw
          try dsimp only at hSw
          go_simp
          try with_reducible rfl
        try simp only [List.getElem_toArray, List.getElem_cons_succ, List.getElem_cons_zero, Act.put, List.setIfInBounds_toArray, List.set_cons_zero, List.set_cons_succ]
        refine wpAnyH_take (i := 8) (v := ?_) rfl (by kernel_rfl) (by kernel_rfl) (by kernel_rfl) (fun _ _ _ h => h) (Or.inl ⟨by rfl, ?_⟩) (by assumption) ?_
        rotate_left
        · intro w hSw
          try dsimp only at hSw
          go_simp
          try with_reducible rfl
        try simp only [List.getElem_toArray, List.getElem_cons_succ, List.getElem_cons_zero, Act.put, List.setIfInBounds_toArray, List.set_cons_zero, List.set_cons_succ]
        refine wpAnyH_take (i := 11) (v := ?_) rfl (by kernel_rfl) (by kernel_rfl) (by kernel_rfl) (fun _ _ _ h => h) (Or.inl ⟨by rfl, ?_⟩) (by assumption) ?_
        rotate_left
        · intro w hSw
          try dsimp only at hSw
          go_simp
          try with_reducible rfl
        try simp only [List.getElem_toArray, List.getElem_cons_succ, List.getElem_cons_zero, Act.put, List.setIfInBounds_toArray, List.set_cons_zero, List.set_cons_succ]
        refine wpAnyH_take (i := 1) (v := ?_) rfl (by kernel_rfl) (by kernel_rfl) (by kernel_rfl) (fun _ _ _ h => h) (Or.inl ⟨by rfl, ?_⟩) (by assumption) ?_
        rotate_left
        · intro w hSw
          try dsimp only at hSw
          go_simp
          try with_reducible rfl
        try simp only [List.getElem_toArray, List.getElem_cons_succ, List.getElem_cons_zero, Act.put, List.setIfInBounds_toArray, List.set_cons_zero, List.set_cons_succ]
        refine wpAnyH_take (i := 5) (v := ?_) rfl (by kernel_rfl) (by kernel_rfl) (by kernel_rfl) (fun _ _ _ h => h) (Or.inl ⟨by rfl, ?_⟩) (by assumption) ?_
        rotate_left
        · intro w hSw
          try dsimp only at hSw
          go_simp
          try with_reducible rfl
        try simp only [List.getElem_toArray, List.getElem_cons_succ, List.getElem_cons_zero, Act.put, List.setIfInBounds_toArray, List.set_cons_zero, List.set_cons_succ]
        refine wpAnyH_take (i := 9) (v := ?_) rfl (by kernel_rfl) (by kernel_rfl) (by kernel_rfl) (fun _ _ _ h => h) (Or.inl ⟨by rfl, ?_⟩) (by assumption) ?_
        rotate_left
        · intro w hSw
          try dsimp only at hSw
          go_simp
          try with_reducible rfl
        try simp only [List.getElem_toArray, List.getElem_cons_succ, List.getElem_cons_zero, Act.put, List.setIfInBounds_toArray, List.set_cons_zero, List.set_cons_succ]
        refine wpAnyH_take (i := 12) (v := ?_) rfl (by kernel_rfl) (by kernel_rfl) (by kernel_rfl) (fun _ _ _ h => h) (Or.inl ⟨by rfl, ?_⟩) (by assumption) ?_
        rotate_left
        · intro w hSw
          try dsimp only at hSw
          go_simp
          try with_reducible rfl
        try simp only [List.getElem_toArray, List.getElem_cons_succ, List.getElem_cons_zero, Act.put, List.setIfInBounds_toArray, List.set_cons_zero, List.set_cons_succ]
        refine wpAnyH_ready (rs := [2]) (by kernel_rfl) (by simp) ?_
        refine AllReadyH.cons rfl (fun Kc hKc => ?_) AllReadyH.nil
        go_simp
        refine (itoa_any xc HI0.out.1 _ (HL2.out.same (Mod.refl (fun _ => False) W).drew)).mono ?_
        rintro e wA ⟨rfl, MM⟩
        have NA := Lib.hid (((Mod.refl (fun _ => False) W).drew).same MM)
        have hc1 := (BA.out.mod NA.out (fun q => q)).cell
        clear MM
        go_wp2_with fail
        refine hKc.out _ _ (by (try dsimp only); first | exact hc0 | exact hc1 | exact hc2 | exact hc3 | exact hc4 | exact hc5 | exact hc6 | exact hc7 | assumption) (fun hHeld => ?_)
        clear hKc Kc
        try simp only [List.getElem_toArray, List.getElem_cons_succ, List.getElem_cons_zero, Act.put, List.setIfInBounds_toArray, List.set_cons_zero, List.set_cons_succ]
        refine wpAnyH_ready (rs := [6]) (by kernel_rfl) (by simp) ?_
        refine AllReadyH.cons rfl (fun Kc hKc => ?_) AllReadyH.nil
        go_simp
        refine (itoa_any xt HI0.out.2.1 _ (HL2.out.same NA.out)).mono ?_
        rintro e wB ⟨rfl, MM⟩
        have NB := Lib.hid ((NA.out).same MM)
        have hc2 := (BA.out.mod NB.out (fun q => q)).cell
        clear MM
        go_wp2_with fail
        refine hKc.out _ _ (by (try dsimp only); first | exact hc0 | exact hc1 | exact hc2 | exact hc3 | exact hc4 | exact hc5 | exact hc6 | exact hc7 | assumption) (fun hHeld => ?_)
        clear hKc Kc
        try simp only [List.getElem_toArray, List.getElem_cons_succ, List.getElem_cons_zero, Act.put, List.setIfInBounds_toArray, List.set_cons_zero, List.set_cons_succ]
        refine wpAnyH_ready (rs := [10]) (by kernel_rfl) (by simp) ?_
        refine AllReadyH.cons rfl (fun Kc hKc => ?_) AllReadyH.nil
        go_simp
        refine (itoa_any xs HI0.out.2.2.1 _ (HL2.out.same NB.out)).mono ?_
        rintro e wC ⟨rfl, MM⟩
        have NC := Lib.hid ((NB.out).same MM)
        have hc3 := (BA.out.mod NC.out (fun q => q)).cell
        clear MM
        go_wp2_with fail
        refine hKc.out _ _ (by (try dsimp only); first | exact hc0 | exact hc1 | exact hc2 | exact hc3 | exact hc4 | exact hc5 | exact hc6 | exact hc7 | assumption) (fun hHeld => ?_)
        clear hKc Kc
        try simp only [List.getElem_toArray, List.getElem_cons_succ, List.getElem_cons_zero, Act.put, List.setIfInBounds_toArray, List.set_cons_zero, List.set_cons_succ]
        refine wpAnyH_ready (rs := [13]) (by kernel_rfl) (by simp) ?_
        refine AllReadyH.cons rfl (fun Kc hKc => ?_) AllReadyH.nil
        go_simp
        refine (hex_any xh HI0.out.2.2.2 _).mono ?_
        rintro e wD ⟨rfl, MM⟩
        have ND := Lib.hid ((NC.out).same MM)
        have hc4 := (BA.out.mod ND.out (fun q => q)).cell
        clear MM
        go_wp2_with fail
        have hc5 := (BA.out.mod (ND.out.alloc (.cells #[.string ⟨(Lib.itoa xc).toArray⟩, .string ⟨(Lib.itoa xt).toArray⟩, .string ⟨(Lib.itoa xs).toArray⟩, .string ⟨(hexL xh).toArray⟩] 9)) (fun q => q)).cell
        have NE := Lib.hid (ND.out.alloc (.cells #[.string ⟨(Lib.itoa xc).toArray⟩, .string ⟨(Lib.itoa xt).toArray⟩, .string ⟨(Lib.itoa xs).toArray⟩, .string ⟨(hexL xh).toArray⟩] 9))
        have HJ := Lib.hid (join4 (Lib.itoa xc) (Lib.itoa xt) (Lib.itoa xs) (hexL xh) (by have := HLen.out; have := hexL_len xh; omega) wD)
        rw [HLT.out] at HJ
        unfold strV
        refine hKc.out _ _ (by (try dsimp only); first | exact hc0 | exact hc1 | exact hc2 | exact hc3 | exact hc4 | exact hc5 | exact hc6 | exact hc7 | assumption) (fun hHeld => ?_)
        clear hKc Kc
        try simp only [List.getElem_toArray, List.getElem_cons_succ, List.getElem_cons_zero, Act.put, List.setIfInBounds_toArray, List.set_cons_zero, List.set_cons_succ]
        refine wpAnyH_ready (rs := [14]) (by kernel_rfl) (by simp) ?_
        refine AllReadyH.cons rfl (fun Kc hKc => ?_) AllReadyH.nil
        go_simp
        refine hKc.out _ _ (by (try dsimp only); first | exact hc0 | exact hc1 | exact hc2 | exact hc3 | exact hc4 | exact hc5 | exact hc6 | exact hc7 | assumption) (fun hHeld => ?_)
        clear hKc Kc
        try simp only [List.getElem_toArray, List.getElem_cons_succ, List.getElem_cons_zero, Act.put, List.setIfInBounds_toArray, List.set_cons_zero, List.set_cons_succ]
        refine wpAnyH_ready (rs := [15]) (by kernel_rfl) (by simp) ?_
        refine AllReadyH.cons rfl (fun Kc hKc => ?_) AllReadyH.nil
        go_simp
        refine HJ.out.mono ?_
        rintro e wF ⟨rfl, MM⟩
        have NF := Lib.hid (NE.out.same MM)
        have hc6 := (BA.out.mod NF.out (fun q => q)).cell
        clear MM
        unfold strV at *
        go_wp2_with fail
        refine hKc.out _ _ (by (try dsimp only); first | exact hc0 | exact hc1 | exact hc2 | exact hc3 | exact hc4 | exact hc5 | exact hc6 | exact hc7 | assumption) (fun hHeld => ?_)
        clear hKc Kc
        try simp only [List.getElem_toArray, List.getElem_cons_succ, List.getElem_cons_zero, Act.put, List.setIfInBounds_toArray, List.set_cons_zero, List.set_cons_succ]
        refine wpAnyH_take (i := 16) (v := ?_) rfl (by kernel_rfl) (by kernel_rfl) (by kernel_rfl) (fun _ _ _ h => h) (Or.inl ⟨by rfl, ?_⟩) (by assumption) ?_
        rotate_left
        · intro w hSw
          try dsimp only at hSw
          have hnl : ¬ 9223372036854775807 < lt.length + 1 := by have := HLen.out; omega
          go_simp
          try with_reducible rfl
        try simp only [List.getElem_toArray, List.getElem_cons_succ, List.getElem_cons_zero, Act.put, List.setIfInBounds_toArray, List.set_cons_zero, List.set_cons_succ]
        refine wpAnyH_ready (rs := [17]) (by kernel_rfl) (by simp) ?_
        refine AllReadyH.cons rfl (fun Kc hKc => ?_) AllReadyH.nil
        go_simp
        refine (Tryd.Builder_WriteString_k w1.heap.size w1.heap.size (Lib.byteCells tk) _ wF (builder_same JB.out NF.out) (by rw [Lib.byteCells_length, one_app, bytes_size, List.length_append, List.length_singleton]; have := HLen.out; omega) (by have := NF.out.size; have := J3.out.size; omega)).mono ?_
        rintro e wG ⟨rfl, hbld, bG, kG⟩
        have hc7 : ∀ i, wG.cell? ⟨Y, i, none⟩ = #[Value.int .i64 xc, .int .i64 xt, .int .i64 xs, .int .u32 (xh : Int)][i]? := fun i => (World.cell?_of_block (w := wF) ((kG Y _ (hYb.out _ NF.out) (by simp; omega) (fun c fz q => by cases q)).trans (hYb.out _ NF.out).symm)).trans (hc6 i)
        have LB := Lib.hid hbld
        have LG := Lib.hid bG
        clear hbld bG kG
        rw [one_app] at LB
        go_wp2_with fail
        refine hKc.out _ _ (by (try dsimp only); first | exact hc0 | exact hc1 | exact hc2 | exact hc3 | exact hc4 | exact hc5 | exact hc6 | exact hc7 | assumption) (fun hHeld => ?_)
        clear hKc Kc
        try simp only [List.getElem_toArray, List.getElem_cons_succ, List.getElem_cons_zero, Act.put, List.setIfInBounds_toArray, List.set_cons_zero, List.set_cons_succ]
        refine wpAnyH_done (by kernel_rfl) ?_ _
        go_wp2_with fail
        go_roundw
        case rel =>
          refine ⟨k + 1, by omega, by go_num, ?_, Same.of_below ((Same.below (J3.out.same NF.out)).trans LG.out)⟩
          rw [HT.out, Lib.byteCells_append]
          exact .inr LB.out
        case measure => simp [intOf]; omega
      · obtain rfl : k = n := by omega
        rw [show L.take k = L from List.take_of_length_le (by rw [HN.out]; exact Nat.le_refl _)] at J1
        have hsz := J2.out.size
        have HS := Lib.hid (Tryd.Builder_String_any_k w1.heap.size w1.heap.size (textL L) wr J1.out (by omega))
        go_wp2_with fail
        refine HS.out.mono ?_
        rintro e w2 ⟨rfl, _, hb2, _⟩
        have K2 := Lib.hid (K1.out.same (Same.of_below ((Same.below J2.out).trans hb2)))
        clear hb2
        go_wp2
        exact HR.out _ _ ⟨rfl, K2.out⟩
end Go.Proofs.YthkcdoneghcglaaDoor
