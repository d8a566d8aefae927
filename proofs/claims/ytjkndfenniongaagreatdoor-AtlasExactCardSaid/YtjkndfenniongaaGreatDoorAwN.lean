import Derived.Test.YtjkndfenniongaaGreatDoorAwI
import Derived.Test.YtjkndfenniongaaGreatDoorAwH
import Derived.Test.YtjkndfenniongaaGreatDoorAvK
set_option linter.unusedSimpArgs false
set_option linter.unusedVariables false
set_option maxRecDepth 100000
/- The two walks through a tree are one. -/
namespace Go.Proofs.YtjkndfenniongaaGreatDoor
open Go Go.RowKit
/-- All keys of a node lie below its end iff the last one does. -/
theorem last_all {L : List (Int × Int)} (hr : riseL L = true) (h0 : L.length ≠ 0) (hi : Int) : (L.getD (L.length - 1) (0, 0)).1 < hi ↔ ∀ x ∈ L, x.1 < hi := by
  have hmono : ∀ (d i : Nat) x y, L[i]? = some x → L[i + d]? = some y → x.1 ≤ y.1 := by
    intro d
    induction d with
    | zero => intro i x y h1 h2; rw [Nat.add_zero, h1] at h2; cases h2; exact Int.le_refl _
    | succ d ih =>
      intro i x y h1 h2
      have hlt := (List.getElem?_eq_some_iff.1 h2).1
      obtain ⟨z, hz⟩ : ∃ z, L[i + d]? = some z := ⟨_, List.getElem?_eq_getElem (by omega)⟩
      have := ih i x z h1 hz
      have := (rise_iff L).1 hr (i + d) z y hz h2
      omega
  have hlast : L[L.length - 1]? = some (L.getD (L.length - 1) (0, 0)) := by
    rw [List.getD_eq_getElem?_getD, List.getElem?_eq_getElem (by omega)]; rfl
  constructor
  · intro h x hx
    obtain ⟨i, hi'⟩ := List.getElem?_of_mem hx
    have hil := (List.getElem?_eq_some_iff.1 hi').1
    have := hmono (L.length - 1 - i) i x _ hi' (by rw [show i + (L.length - 1 - i) = L.length - 1 by omega]; exact hlast)
    omega
  · intro h
    exact h _ (List.mem_of_getElem? hlast)
theorem lookK_leaf (f : Int × Int → Int → Bool → WSt → Option WSt) (has : Bool) (hi : Int) : ∀ (L : List (Int × Int)) (st : WSt), (∀ x ∈ L, ¬ (has = true ∧ hi ≤ x.1)) → lookK f has hi 0 L st = some (st.1, st.2 ++ L)
  | [], st, _ => by simp [lookK]
  | x :: r, st, h => by
    rw [lookK_cons, if_neg (h x (by simp)), if_pos rfl, lookK_leaf f has hi r _ (fun y hy => h y (by simp [hy]))]
    simp
theorem lookK_kids (f : Int × Int → Int → Bool → WSt → Option WSt) (has : Bool) (hi lv : Int) (h0 : lv ≠ 0) : ∀ (L : List (Int × Int)) (st : WSt), (∀ x ∈ L, ¬ (has = true ∧ hi ≤ x.1)) → lookK f has hi lv L st = kidsW f hi has L st
  | [], st, _ => rfl
  | [x], st, h => by
    rw [lookK_cons, if_neg (h x (by simp)), if_neg h0]
    simp only [kidsW]
    cases f x hi has st <;> rfl
  | x :: y :: r, st, h => by
    rw [lookK_cons, if_neg (h x (by simp)), if_neg h0]
    simp only [kidsW]
    cases hx : f x y.1 true st with
    | none => rfl
    | some st' => exact lookK_kids f has hi lv h0 (y :: r) st' (fun z hz => h z (by simp [hz]))
theorem lookK_cut (f : Int × Int → Int → Bool → WSt → Option WSt) (has : Bool) (hi lv : Int) : ∀ (L : List (Int × Int)) (st : WSt), (∃ x ∈ L, has = true ∧ hi ≤ x.1) → lookK f has hi lv L st = none
  | [], st, h => by obtain ⟨x, hx, _⟩ := h; simp at hx
  | x :: r, st, h => by
    rw [lookK_cons]
    by_cases q : has = true ∧ hi ≤ x.1
    · rw [if_pos q]
    · rw [if_neg q]
      have h2 : ∃ y ∈ r, has = true ∧ hi ≤ y.1 := by
        obtain ⟨y, hy, hq⟩ := h
        rcases List.mem_cons.1 hy with e | e
        · subst e; exact absurd hq q
        · exact ⟨y, e, hq⟩
      by_cases q0 : lv = 0
      · rw [if_pos q0]; exact lookK_cut f has hi lv r _ h2
      · rw [if_neg q0]
        cases r with
        | nil => obtain ⟨y, hy, _⟩ := h2; simp at hy
        | cons y t =>
          have ih := lookK_cut f has hi lv (y :: t)
          show (f x y.1 true st).bind (lookK f has hi lv (y :: t)) = none
          cases hx : f x y.1 true st with
          | none => rfl
          | some st' => exact ih st' h2
theorem goodL_rise {lv : Int} {L : List (Int × Int)} (h : goodL lv L = true) : riseL L = true := by
  unfold goodL at h
  simp only [Bool.and_eq_true] at h
  exact h.1.2
/-- Nodes as the document reads them off an image of sectors. -/
def ndS (S : List (List UInt8)) (i : Nat) : Int × List (Int × Int) := match leafP (pageS S (i + 1)) with
  | none => (-1, [])
  | some q => q
theorem look_same (S : List (List UInt8)) : ∀ (m : Nat) (p lvl fi hi : Int) (has : Bool) (st : WSt), 1 < min (S.length / 16) 512 → lookN (ndS S) (min (S.length / 16) 512 - 1) m p lvl fi has hi st = nodeW S m p lvl fi (decide (0 ≤ lvl)) hi has st
  | 0, p, lvl, fi, hi, has, st, _ => rfl
  | m + 1, p, lvl, fi, hi, has, st, hnp => by
    have ih := look_same S m
    rw [lookN]
    by_cases hp : 1 ≤ p ∧ p < ((min (S.length / 16) 512 : Nat) : Int)
    · rw [if_neg (by omega)]
      have hnd : ndS S (p.toNat - 1) = match leafP (pageS S p.toNat) with | none => (-1, []) | some q => q := by
        unfold ndS
        rw [show p.toNat - 1 + 1 = p.toNat by omega]
      cases hc : st.1.contains p with
      | true =>
        rw [if_pos rfl]
        rcases nodeE_form S p lvl with ⟨er, hne, _⟩ | ⟨lv, L, hne, _⟩
        · rw [nodeW_none S m p lvl fi hi _ has st hne]
        · rw [nodeW_cut S m p lvl fi hi _ has st hne (.inl hc)]
      | false =>
        rw [if_neg (by simp)]
        cases hl : leafP (pageS S p.toNat) with
        | none =>
          rw [hl] at hnd
          dsimp only at hnd
          rw [hnd, if_neg (fun q => by have := q.1; revert this; decide)]
          have hne : nodeE S p lvl = (3, none) := by unfold nodeE; rw [if_pos hp, hl]
          rw [nodeW_none S m p lvl fi hi _ has st hne]
        | some q =>
          obtain ⟨lv, L⟩ := q
          rw [hl] at hnd
          dsimp only at hnd
          rw [hnd]
          dsimp only
          have hg := leafP_good hl
          by_cases hbad : L.length = 0 ∨ (0 ≤ lvl ∧ lv ≠ lvl)
          · have hne : nodeE S p lvl = (3, none) := by unfold nodeE; rw [if_pos hp, hl]; dsimp only; rw [if_pos hbad]
            rw [nodeW_none S m p lvl fi hi _ has st hne, if_neg]
            rintro ⟨_, h1, h2, _⟩
            rcases hbad with q | ⟨q1, q2⟩
            · exact h1 q
            · exact q2 (h2 q1).1
          · have hne : nodeE S p lvl = (0, some (lv, L)) := by unfold nodeE; rw [if_pos hp, hl]; dsimp only; rw [if_neg hbad]
            have hL0 : L.length ≠ 0 := fun q => hbad (.inl q)
            have hlv : 0 ≤ lvl → lv = lvl := fun q => Classical.byContradiction fun r => hbad (.inr ⟨q, r⟩)
            have hright : rightP fi (decide (0 ≤ lvl)) hi has lv (L.getD 0 (0, 0)) (L.getD (L.length - 1) (0, 0)) L.length = true ↔ (lookOk lvl fi lv L ∧ ∀ x ∈ L, ¬ (has = true ∧ hi ≤ x.1)) := by
              unfold rightP lookOk
              rw [Bool.and_eq_true]
              have hA : (if decide (0 ≤ lvl) = true then decide ((L.getD 0 (0, 0)).1 = fi) else !(decide (0 < lv) && decide (L.length < 2))) = true ↔ ((0 ≤ lvl → lv = lvl ∧ (L.getD 0 (0, 0)).1 = fi) ∧ (lvl < 0 → 0 < lv → 2 ≤ L.length)) := by
                by_cases q : 0 ≤ lvl
                · rw [if_pos (decide_eq_true q), decide_eq_true_eq]
                  exact ⟨fun h => ⟨fun _ => ⟨hlv q, h⟩, fun h => by omega⟩, fun h => (h.1 q).2⟩
                · rw [if_neg (by simpa using q)]
                  simp only [Bool.not_eq_true', Bool.and_eq_false_iff, decide_eq_false_iff_not]
                  constructor
                  · intro h
                    exact ⟨fun r => absurd r q, fun _ h1 => by rcases h with h | h <;> omega⟩
                  · intro h
                    by_cases h1 : 0 < lv
                    · right; have := h.2 (by omega) h1; omega
                    · left; exact h1
              have hB : (!has || decide ((L.getD (L.length - 1) (0, 0)).1 < hi)) = true ↔ ∀ x ∈ L, ¬ (has = true ∧ hi ≤ x.1) := by
                cases has with
                | false => simp
                | true =>
                  simp only [Bool.not_true, Bool.false_or, decide_eq_true_eq, true_and]
                  rw [last_all (goodL_rise hg) hL0]
                  exact ⟨fun h x hx => by have := h x hx; omega, fun h x hx => by have := h x hx; omega⟩
              rw [hA, hB]
              exact ⟨fun h => ⟨⟨hg, hL0, h.1.1, h.1.2⟩, h.2⟩, fun h => ⟨⟨h.1.2.2.1, h.1.2.2.2⟩, h.2⟩⟩
            cases hr : rightP fi (decide (0 ≤ lvl)) hi has lv (L.getD 0 (0, 0)) (L.getD (L.length - 1) (0, 0)) L.length with
            | true =>
              obtain ⟨hok, hall⟩ := hright.1 hr
              rw [if_pos hok]
              by_cases h0 : lv = 0
              · rw [nodeW_leaf S m p lvl fi hi _ has st hne hc hr h0]
                subst h0
                rw [lookK_leaf _ has hi L _ hall]
              · rw [nodeW_kids S m p lvl fi hi _ has st hne hc hr h0, lookK_kids _ has hi lv h0 L _ hall]
                congr 1
                funext x h e st'
                rw [ih x.2 (lv - 1) x.1 h e st' hnp, decide_eq_true (by have := (good_len hg).2; omega : 0 ≤ lv - 1)]
            | false =>
              rw [nodeW_cut S m p lvl fi hi _ has st hne (.inr hr)]
              by_cases hok : lookOk lvl fi lv L
              · rw [if_pos hok]
                apply lookK_cut
                apply Classical.byContradiction
                intro hno
                have : rightP fi (decide (0 ≤ lvl)) hi has lv (L.getD 0 (0, 0)) (L.getD (L.length - 1) (0, 0)) L.length = true := hright.2 ⟨hok, fun x hx hq => hno ⟨x, hx, hq⟩⟩
                rw [hr] at this
                cases this
              · rw [if_neg hok]
    · rw [if_pos (by omega)]
      have hne : nodeE S p lvl = (9, none) := by unfold nodeE; rw [if_neg hp]
      rw [nodeW_none S m p lvl fi hi _ has st hne]
end Go.Proofs.YtjkndfenniongaaGreatDoor
set_option maxRecDepth 100000
/- An image's sectors, and its pages. -/
namespace Go.Proofs.YtjkndfenniongaaGreatDoor
open Go Go.RowKit
theorem joinS_chunks (u : List UInt8) : ∀ m, 16 * m ≤ u.length → joinS ((List.range m).map fun i => (u.drop (16 * i)).take 16) = u.take (16 * m)
  | 0, _ => by simp [joinS]
  | m + 1, h => by
    rw [List.range_succ, List.map_append, List.map_cons, List.map_nil, joinS_snoc, joinS_chunks u m (by omega), show 16 * (m + 1) = 16 * m + 16 by omega, List.take_add]
theorem page_same (l : List UInt8) (hl : l.length ≤ 32768) (p : Nat) (hp : 256 * (p + 1) ≤ l.length) : pageS (secs l) p = pageD l p := by
  have hn : secN l = l.length / 16 := by unfold secN; omega
  have h1 : ((secs l).drop (16 * p)).take 16 = (List.range 16).map fun i => ((l.drop (256 * p)).drop (16 * i)).take 16 := by
    unfold secs secK
    rw [hn]
    apply List.ext_getElem
    · simp; omega
    · intro i h1 h2
      simp at h1 h2
      simp only [List.getElem_take, List.getElem_drop, List.getElem_map, List.getElem_range, List.drop_drop]
      congr 2
      omega
  unfold pageS
  rw [h1, joinS_chunks _ 16 (by rw [List.length_drop]; omega)]
  rfl
theorem np_same (l : List UInt8) (hl : l.length ≤ 32768) : min ((secs l).length / 16) 512 = min (l.length / 256) 512 := by
  rw [secs_len]
  unfold secN
  omega
theorem node_same (l : List UInt8) (hl : l.length ≤ 32768) (i : Nat) (hi : i + 1 < min (l.length / 256) 512) : nodeD l (i + 1) = match leafP (pageS (secs l) (i + 1)) with | none => (-1, []) | some q => q := by
  unfold nodeD
  rw [page_same l hl (i + 1) (by omega)]
  cases leafP (pageD l (i + 1)) <;> rfl
theorem open_same (l : List UInt8) (hl : l.length ≤ 32768) (h2 : 2 ≤ l.length / 256) : openS (secs l) = newest (l.take 16) ((l.drop 16).take 16) := by
  unfold openS
  rw [np_same l hl, if_neg (by omega)]
  have hn : secN l = l.length / 16 := by unfold secN; omega
  have g : ∀ i, i < 2 → (secs l).getD i [] = (l.drop (16 * i)).take 16 := fun i hi => by
    unfold secs secK
    rw [List.getD_eq_getElem?_getD, List.getElem?_map, List.getElem?_range (by omega)]; rfl
  rw [g 0 (by omega), g 1 (by omega)]
  simp
theorem open_none (l : List UInt8) (hl : l.length ≤ 32768) (h2 : ¬ 2 ≤ l.length / 256) : openS (secs l) = none := by
  unfold openS
  rw [np_same l hl, if_pos (by omega)]
end Go.Proofs.YtjkndfenniongaaGreatDoor
set_option maxRecDepth 100000
/- The document's look at a tree; its volumes. -/
namespace Go.Proofs.YtjkndfenniongaaGreatDoor
open Go Go.RowKit
def lookR (nd : Nat → Int × List (Int × Int)) (n : Nat) (root : Int) : Option WSt := if root = 0 then some ([], []) else lookN nd n 9 root (-1) 0 false 0 ([], [])
theorem wk_new2 (w : World) : Wk w.heap.size (fun i => i < w.heap.size) (w.alloc (.cells #[.slice none 0 0, .slice none 0 0, .bool false] 70)) w.heap.size (.slice none 0 0) (.slice none 0 0) (.bool false) ([], []) :=
  ⟨Blk.new w _ _, World.ownsRow_nil _ _ _ _, World.ownsRow_nil _ _ _ _, by omega, fun i q => by simp; omega, fun b q => by simp [Value.ownBlock] at q, fun b q => by simp [Value.ownBlock] at q, by simp, by simp, by simp, by simp⟩
theorem rlook_any {w : World} {a : Option Addr} {n c : Nat} {nd : Nat → Int × List (Int × Int)} (ND : Nds w a n nd) (hN : ∀ i, (nd i).2.length ≤ 15) (hU : ∀ i, ∀ x ∈ (nd i).2, U64 x.1 ∧ U64 x.2) (hn : n ≤ 511) (root : Int) (hr : I64 root) :
    Calls Tryz.prog 22 #[.slice a n c, .int .i64 root] w fun e w' => ∃ k, e = .returned (bp k) ∧ w.heap.size ≤ k ∧ Same w w' ∧ LookT w.heap.size (fun i => i < w.heap.size) w' k (lookR nd n root) := by
  refine opq fun R HR => ?_
  have W0 := Lib.hid (wk_new2 w)
  have M0 := Lib.hid (show Same w (w.alloc (.cells #[.slice none 0 0, .slice none 0 0, .bool false] 70)) from (Mod.refl _ _).alloc _)
  have HN := Lib.hid (fun hq => look_all (c := c) ND hN hU hn w.heap.size 9 root (-1) 0 0 false ([], []) (fun i => i < w.heap.size) _ _ _ hr (by omega) (by omega) (by omega) M0.out hq W0.out)
  clear ND hN hU
  unfold lookR at HR
  by_cases h0 : root = 0
  · rw [if_pos h0] at HR
    subst h0
    go_enter Tryz.func22, Tryz.ntmps22
    go_wp2_with fail
    exact HR.out _ _ ⟨_, rfl, Nat.le_refl _, M0.out, _, _, W0.out⟩
  · rw [if_neg h0] at HR
    have hb : (root != 0) = true := by simp [h0]
    clear h0
    go_enter Tryz.func22, Tryz.ntmps22
    go_wp2_with fail
    refine (HN.out (fun i q => q)).mono ?_
    rintro e w2 ⟨rfl, M, hn⟩
    have M2 := Lib.hid (M0.out.then_ M (fun i hi q => q hi))
    have N2 := Lib.hid hn
    clear M hn
    go_wp2
    exact HR.out _ _ ⟨_, rfl, Nat.le_refl _, M2.out, N2.out⟩
set_option maxHeartbeats 8000000 in
theorem rvread_any (p : Int × Int) (h0 : U64 p.1) (h1 : U64 p.2) (w : World) : Calls Tryz.prog 42 #[.agg #[.int .u64 p.1, .int .u64 p.2]] w fun e w' => e = .returned (match readV p with | none => .tuple #[.agg #[.int .i64 0, .int .i64 0, .int .i64 0, .bool false, .int .i64 0], .bool false] | some v => .tuple #[vlV v, .bool true]) ∧ Same w w' := by
  refine opq fun R HR => ?_
  obtain ⟨ky, vl⟩ := p
  unfold U64 at h0 h1
  dsimp only at h0 h1 ⊢
  go_enter Tryz.func42, Tryz.ntmps42
  go_wp2_with fail
  have X2 := Lib.hid ((Blk.new (w.alloc (.cells #[.int .u64 ky, .int .u64 vl] 123)) #[.int .i64 0, .int .i64 0, .int .i64 0, .bool false, .int .i64 0] 72).alloc (.cells #[.int .i64 (ky % 4294967296), .int .i64 (vl / 65536 % 65536), .int .i64 (vl % 65536), .bool (vl / 4294967296 % 256 == 1), .int .i64 (vl / 1099511627776)] 72))
  have V2 := Lib.hid (Blk.new ((w.alloc (.cells #[.int .u64 ky, .int .u64 vl] 123)).alloc (.cells #[.int .i64 0, .int .i64 0, .int .i64 0, .bool false, .int .i64 0] 72)) #[.int .i64 (ky % 4294967296), .int .i64 (vl / 65536 % 65536), .int .i64 (vl % 65536), .bool (vl / 4294967296 % 256 == 1), .int .i64 (vl / 1099511627776)] 72)
  have P2 := Lib.hid (((Blk.new w #[.int .u64 ky, .int .u64 vl] 123).alloc (.cells #[.int .i64 0, .int .i64 0, .int .i64 0, .bool false, .int .i64 0] 72)).alloc (.cells #[.int .i64 (ky % 4294967296), .int .i64 (vl / 65536 % 65536), .int .i64 (vl % 65536), .bool (vl / 4294967296 % 256 == 1), .int .i64 (vl / 1099511627776)] 72))
  have N2 := Lib.hid (show Same w (((w.alloc (.cells #[.int .u64 ky, .int .u64 vl] 123)).alloc (.cells #[.int .i64 0, .int .i64 0, .int .i64 0, .bool false, .int .i64 0] 72)).alloc (.cells #[.int .i64 (ky % 4294967296), .int .i64 (vl / 65536 % 65536), .int .i64 (vl % 65536), .bool (vl / 4294967296 % 256 == 1), .int .i64 (vl / 1099511627776)] 72)) from (((Mod.refl _ _).alloc _).alloc _).alloc _)
  rw [show (w.alloc (.cells #[.int .u64 ky, .int .u64 vl] 123)).heap.size = w.heap.size + 1 by simp] at X2
  rw [show ((w.alloc (.cells #[.int .u64 ky, .int .u64 vl] 123)).alloc (.cells #[.int .i64 0, .int .i64 0, .int .i64 0, .bool false, .int .i64 0] 72)).heap.size = w.heap.size + 1 + 1 by simp] at V2
  generalize World.alloc _ _ = W2 at *
  have HG := Lib.hid (fun w => rvgood_any (volOf (ky, vl)) w)
  have vv0 := V2.out.at_ (i := 0) _ rfl
  have vv1 := V2.out.at_ (i := 1) _ rfl
  have vv2 := V2.out.at_ (i := 2) _ rfl
  have vv3 := V2.out.at_ (i := 3) _ rfl
  have vv4 := V2.out.at_ (i := 4) _ rfl
  have pp0 := P2.out.at_ (i := 0) _ rfl
  have pp1 := P2.out.at_ (i := 1) _ rfl
  have A0 := Lib.hid ((Mod.refl (fun _ => False) W2).drew)
  unfold readV at HR
  dsimp only [vlV, vlC, volOf] at HG
  cases hg : goodV (volOf (ky, vl)) with
  | false =>
    rw [if_neg (by rw [hg]; simp)] at HR
    dsimp only at HR
    have hg2 := hg
    dsimp only [volOf] at hg2
    rw [hg2] at HG
    refine wp_region_held_drew (S := fun w' => Same W2 w') (by kernel_rfl) (by (try dsimp only); exact (Mod.refl _ _).drew) (fun hHeld => ?_)
    refine wpAnyH_take (i := 0) (v := ?_) rfl (by kernel_rfl) (by kernel_rfl) (by kernel_rfl) (fun _ _ _ h => h) (Or.inl ⟨by rfl, ?_⟩) (by assumption) ?_
    rotate_left
    · intro w hSw
      try dsimp only at hSw
      have v0 := (hSw.cell V2.out.lt (fun q => q) 0).trans vv0
      have v1 := (hSw.cell V2.out.lt (fun q => q) 1).trans vv1
      have v2 := (hSw.cell V2.out.lt (fun q => q) 2).trans vv2
      have v3 := (hSw.cell V2.out.lt (fun q => q) 3).trans vv3
      have v4 := (hSw.cell V2.out.lt (fun q => q) 4).trans vv4
      go_simp
      try with_reducible rfl
    try simp only [List.getElem_toArray, List.getElem_cons_succ, List.getElem_cons_zero, Act.put, List.setIfInBounds_toArray, List.set_cons_zero, List.set_cons_succ]
    refine wpAnyH_ready (rs := [1]) (by kernel_rfl) (by simp) ?_
    refine AllReadyH.cons rfl (fun Kc hKc => ?_) AllReadyH.nil
    go_simp
    refine (HG.out _).mono ?_
    rintro e wB ⟨rfl, MA⟩
    have A1 := Lib.hid (A0.out.same MA)
    clear MA
    go_wp2_with fail
    refine hKc.out _ _ (by (try dsimp only); exact A1.out) (fun hHeld => ?_)
    clear hKc Kc
    try simp only [List.getElem_toArray, List.getElem_cons_succ, List.getElem_cons_zero, Act.put, List.setIfInBounds_toArray, List.set_cons_zero, List.set_cons_succ]
    refine wpAnyH_take (i := 2) (v := ?_) rfl (by kernel_rfl) (by kernel_rfl) (by kernel_rfl) (fun _ _ _ h => h) (Or.inl ⟨by rfl, ?_⟩) (by assumption) ?_
    rotate_left
    · intro w hSw
      try dsimp only at hSw
      go_simp
      try with_reducible rfl
    try simp only [List.getElem_toArray, List.getElem_cons_succ, List.getElem_cons_zero, Act.put, List.setIfInBounds_toArray, List.set_cons_zero, List.set_cons_succ]
    refine wpAnyH_take (i := 3) (v := ?_) rfl (by kernel_rfl) (by kernel_rfl) (by kernel_rfl) (fun _ _ _ h => h) (Or.inl ⟨by rfl, ?_⟩) (by assumption) ?_
    rotate_left
    · intro w hSw
      try dsimp only at hSw
      go_simp
      try with_reducible rfl
    try simp only [List.getElem_toArray, List.getElem_cons_succ, List.getElem_cons_zero, Act.put, List.setIfInBounds_toArray, List.set_cons_zero, List.set_cons_succ]
    refine wpAnyH_take (i := 4) (v := undef) rfl (by kernel_rfl) (by kernel_rfl) (by kernel_rfl) (fun _ _ _ h => h) (Or.inr ⟨by rfl, rfl⟩) (by assumption) ?_
    try simp only [List.getElem_toArray, List.getElem_cons_succ, List.getElem_cons_zero, Act.put, List.setIfInBounds_toArray, List.set_cons_zero, List.set_cons_succ]
    refine wpAnyH_take (i := 5) (v := undef) rfl (by kernel_rfl) (by kernel_rfl) (by kernel_rfl) (fun _ _ _ h => h) (Or.inr ⟨by rfl, rfl⟩) (by assumption) ?_
    try simp only [List.getElem_toArray, List.getElem_cons_succ, List.getElem_cons_zero, Act.put, List.setIfInBounds_toArray, List.set_cons_zero, List.set_cons_succ]
    refine wpAnyH_take (i := 6) (v := undef) rfl (by kernel_rfl) (by kernel_rfl) (by kernel_rfl) (fun _ _ _ h => h) (Or.inr ⟨by rfl, rfl⟩) (by assumption) ?_
    try simp only [List.getElem_toArray, List.getElem_cons_succ, List.getElem_cons_zero, Act.put, List.setIfInBounds_toArray, List.set_cons_zero, List.set_cons_succ]
    refine wpAnyH_take (i := 7) (v := undef) rfl (by kernel_rfl) (by kernel_rfl) (by kernel_rfl) (fun _ _ _ h => h) (Or.inr ⟨by rfl, rfl⟩) (by assumption) ?_
    try simp only [List.getElem_toArray, List.getElem_cons_succ, List.getElem_cons_zero, Act.put, List.setIfInBounds_toArray, List.set_cons_zero, List.set_cons_succ]
    refine wpAnyH_take (i := 8) (v := ?_) rfl (by kernel_rfl) (by kernel_rfl) (by kernel_rfl) (fun _ _ _ h => h) (Or.inl ⟨by rfl, ?_⟩) (by assumption) ?_
    rotate_left
    · intro w hSw
      try dsimp only at hSw
      go_simp
      try with_reducible rfl
    try simp only [List.getElem_toArray, List.getElem_cons_succ, List.getElem_cons_zero, Act.put, List.setIfInBounds_toArray, List.set_cons_zero, List.set_cons_succ]
    refine wpAnyH_done (by kernel_rfl) ?_ _
    have NN := Lib.hid (N2.out.same A1.out)
    have XX := Lib.hid (X2.out.mod A1.out (fun q => q))
    have VV := Lib.hid (V2.out.mod A1.out (fun q => q))
    have q0 := XX.out.at_ (i := 0) _ rfl
    have qf0 := XX.out.free 0
    have s0 := VV.out.at_ (i := 0) _ rfl
    have q1 := XX.out.at_ (i := 1) _ rfl
    have qf1 := XX.out.free 1
    have s1 := VV.out.at_ (i := 1) _ rfl
    have q2 := XX.out.at_ (i := 2) _ rfl
    have qf2 := XX.out.free 2
    have s2 := VV.out.at_ (i := 2) _ rfl
    have q3 := XX.out.at_ (i := 3) _ rfl
    have qf3 := XX.out.free 3
    have s3 := VV.out.at_ (i := 3) _ rfl
    have q4 := XX.out.at_ (i := 4) _ rfl
    have qf4 := XX.out.free 4
    have s4 := VV.out.at_ (i := 4) _ rfl
    have YF := Lib.hid (five_set XX.out (.int .i64 0) (.int .i64 0) (.int .i64 0) (.bool false) (.int .i64 0))
    have NF := Lib.hid (NN.out.then_ (five_mod _ (w.heap.size + 1) (.int .i64 0) (.int .i64 0) (.int .i64 0) (.bool false) (.int .i64 0)) (fun i hi q => by omega))
    go_wp2_with fail
    generalize World.setCell _ _ _ = wF at *
    have rr0 := YF.out.at_ (i := 0) _ rfl
    have rr1 := YF.out.at_ (i := 1) _ rfl
    have rr2 := YF.out.at_ (i := 2) _ rfl
    have rr3 := YF.out.at_ (i := 3) _ rfl
    have rr4 := YF.out.at_ (i := 4) _ rfl
    exact bodyPost_ret (v := .tuple #[.agg #[.int .i64 0, .int .i64 0, .int .i64 0, .bool false, .int .i64 0], .bool false]) (by simp [results, Tryz.results42, go_sem, rr0, rr1, rr2, rr3, rr4]) rfl (HR.out _ _ ⟨rfl, NF.out⟩)
  | true =>
    have HPr := Lib.hid (fun w => rpair_any (volOf (ky, vl)) hg w)
    obtain ⟨pk, hpk⟩ : ∃ z, 4294967296 + (volOf (ky, vl)).id = z := ⟨_, rfl⟩
    obtain ⟨pv, hpv⟩ : ∃ z, pairN (volOf (ky, vl)) = z := ⟨_, rfl⟩
    have hg2 := hg
    dsimp only [volOf] at hg2
    rw [hpk, hpv] at HR HPr
    rw [hg2] at HG
    dsimp only [vlV, vlC, volOf] at HPr
    clear hpk hpv
    by_cases h2 : pk = ky
    · by_cases h3 : pv = vl
      · rw [if_pos ⟨hg, h2, h3⟩] at HR
        dsimp only [vlV, vlC, volOf] at HR
        clear hg hg2
        subst h2 h3
        refine wp_region_held_drew (S := fun w' => Same W2 w') (by kernel_rfl) (by (try dsimp only); exact (Mod.refl _ _).drew) (fun hHeld => ?_)
        refine wpAnyH_take (i := 0) (v := ?_) rfl (by kernel_rfl) (by kernel_rfl) (by kernel_rfl) (fun _ _ _ h => h) (Or.inl ⟨by rfl, ?_⟩) (by assumption) ?_
        rotate_left
        · intro w hSw
          try dsimp only at hSw
          have v0 := (hSw.cell V2.out.lt (fun q => q) 0).trans vv0
          have v1 := (hSw.cell V2.out.lt (fun q => q) 1).trans vv1
          have v2 := (hSw.cell V2.out.lt (fun q => q) 2).trans vv2
          have v3 := (hSw.cell V2.out.lt (fun q => q) 3).trans vv3
          have v4 := (hSw.cell V2.out.lt (fun q => q) 4).trans vv4
          go_simp
          try with_reducible rfl
        try simp only [List.getElem_toArray, List.getElem_cons_succ, List.getElem_cons_zero, Act.put, List.setIfInBounds_toArray, List.set_cons_zero, List.set_cons_succ]
        refine wpAnyH_ready (rs := [1]) (by kernel_rfl) (by simp) ?_
        refine AllReadyH.cons rfl (fun Kc hKc => ?_) AllReadyH.nil
        go_simp
        refine (HG.out _).mono ?_
        rintro e wB ⟨rfl, MA⟩
        have A1 := Lib.hid (A0.out.same MA)
        clear MA
        go_wp2_with fail
        refine hKc.out _ _ (by (try dsimp only); exact A1.out) (fun hHeld => ?_)
        clear hKc Kc
        try simp only [List.getElem_toArray, List.getElem_cons_succ, List.getElem_cons_zero, Act.put, List.setIfInBounds_toArray, List.set_cons_zero, List.set_cons_succ]
        refine wpAnyH_take (i := 2) (v := ?_) rfl (by kernel_rfl) (by kernel_rfl) (by kernel_rfl) (fun _ _ _ h => h) (Or.inl ⟨by rfl, ?_⟩) (by assumption) ?_
        rotate_left
        · intro w hSw
          try dsimp only at hSw
          go_simp
          try with_reducible rfl
        try simp only [List.getElem_toArray, List.getElem_cons_succ, List.getElem_cons_zero, Act.put, List.setIfInBounds_toArray, List.set_cons_zero, List.set_cons_succ]
        refine wpAnyH_take (i := 3) (v := ?_) rfl (by kernel_rfl) (by kernel_rfl) (by kernel_rfl) (fun _ _ _ h => h) (Or.inl ⟨by rfl, ?_⟩) (by assumption) ?_
        rotate_left
        · intro w hSw
          try dsimp only at hSw
          go_simp
          try with_reducible rfl
        try simp only [List.getElem_toArray, List.getElem_cons_succ, List.getElem_cons_zero, Act.put, List.setIfInBounds_toArray, List.set_cons_zero, List.set_cons_succ]
        refine wpAnyH_take (i := 4) (v := ?_) rfl (by kernel_rfl) (by kernel_rfl) (by kernel_rfl) (fun _ _ _ h => h) (Or.inl ⟨by rfl, ?_⟩) (by assumption) ?_
        rotate_left
        · intro w hSw
          try dsimp only at hSw
          have v0 := (hSw.cell V2.out.lt (fun q => q) 0).trans vv0
          have v1 := (hSw.cell V2.out.lt (fun q => q) 1).trans vv1
          have v2 := (hSw.cell V2.out.lt (fun q => q) 2).trans vv2
          have v3 := (hSw.cell V2.out.lt (fun q => q) 3).trans vv3
          have v4 := (hSw.cell V2.out.lt (fun q => q) 4).trans vv4
          go_simp
          try with_reducible rfl
        try simp only [List.getElem_toArray, List.getElem_cons_succ, List.getElem_cons_zero, Act.put, List.setIfInBounds_toArray, List.set_cons_zero, List.set_cons_succ]
        refine wpAnyH_take (i := 6) (v := ?_) rfl (by kernel_rfl) (by kernel_rfl) (by kernel_rfl) (fun _ _ _ h => h) (Or.inl ⟨by rfl, ?_⟩) (by assumption) ?_
        rotate_left
        · intro w hSw
          try dsimp only at hSw
          have p0 := (hSw.cell P2.out.lt (fun q => q) 0).trans pp0
          have p1 := (hSw.cell P2.out.lt (fun q => q) 1).trans pp1
          go_simp
          try with_reducible rfl
        try simp only [List.getElem_toArray, List.getElem_cons_succ, List.getElem_cons_zero, Act.put, List.setIfInBounds_toArray, List.set_cons_zero, List.set_cons_succ]
        refine wpAnyH_ready (rs := [5]) (by kernel_rfl) (by simp) ?_
        refine AllReadyH.cons rfl (fun Kc hKc => ?_) AllReadyH.nil
        go_simp
        refine (HPr.out _).mono ?_
        rintro e wB ⟨rfl, MA⟩
        have A2 := Lib.hid (A1.out.same MA)
        clear MA
        go_wp2_with fail
        refine hKc.out _ _ (by (try dsimp only); exact A2.out) (fun hHeld => ?_)
        clear hKc Kc
        try simp only [List.getElem_toArray, List.getElem_cons_succ, List.getElem_cons_zero, Act.put, List.setIfInBounds_toArray, List.set_cons_zero, List.set_cons_succ]
        refine wpAnyH_take (i := 7) (v := ?_) rfl (by kernel_rfl) (by kernel_rfl) (by kernel_rfl) (fun _ _ _ h => h) (Or.inl ⟨by rfl, ?_⟩) (by assumption) ?_
        rotate_left
        · intro w hSw
          try dsimp only at hSw
          go_simp
          try with_reducible rfl
        try simp only [List.getElem_toArray, List.getElem_cons_succ, List.getElem_cons_zero, Act.put, List.setIfInBounds_toArray, List.set_cons_zero, List.set_cons_succ]
        refine wpAnyH_take (i := 8) (v := ?_) rfl (by kernel_rfl) (by kernel_rfl) (by kernel_rfl) (fun _ _ _ h => h) (Or.inl ⟨by rfl, ?_⟩) (by assumption) ?_
        rotate_left
        · intro w hSw
          try dsimp only at hSw
          go_simp
          try with_reducible rfl
        try simp only [List.getElem_toArray, List.getElem_cons_succ, List.getElem_cons_zero, Act.put, List.setIfInBounds_toArray, List.set_cons_zero, List.set_cons_succ]
        refine wpAnyH_done (by kernel_rfl) ?_ _
        have NN := Lib.hid (N2.out.same A2.out)
        have XX := Lib.hid (X2.out.mod A2.out (fun q => q))
        have VV := Lib.hid (V2.out.mod A2.out (fun q => q))
        have q0 := XX.out.at_ (i := 0) _ rfl
        have qf0 := XX.out.free 0
        have s0 := VV.out.at_ (i := 0) _ rfl
        have q1 := XX.out.at_ (i := 1) _ rfl
        have qf1 := XX.out.free 1
        have s1 := VV.out.at_ (i := 1) _ rfl
        have q2 := XX.out.at_ (i := 2) _ rfl
        have qf2 := XX.out.free 2
        have s2 := VV.out.at_ (i := 2) _ rfl
        have q3 := XX.out.at_ (i := 3) _ rfl
        have qf3 := XX.out.free 3
        have s3 := VV.out.at_ (i := 3) _ rfl
        have q4 := XX.out.at_ (i := 4) _ rfl
        have qf4 := XX.out.free 4
        have s4 := VV.out.at_ (i := 4) _ rfl
        have YF := Lib.hid (five_set XX.out (.int .i64 (pk % 4294967296)) (.int .i64 (pv / 65536 % 65536)) (.int .i64 (pv % 65536)) (.bool (pv / 4294967296 % 256 == 1)) (.int .i64 (pv / 1099511627776)))
        have NF := Lib.hid (NN.out.then_ (five_mod _ (w.heap.size + 1) (.int .i64 (pk % 4294967296)) (.int .i64 (pv / 65536 % 65536)) (.int .i64 (pv % 65536)) (.bool (pv / 4294967296 % 256 == 1)) (.int .i64 (pv / 1099511627776))) (fun i hi q => by omega))
        go_wp2_with fail
        generalize World.setCell _ _ _ = wF at *
        have rr0 := YF.out.at_ (i := 0) _ rfl
        have rr1 := YF.out.at_ (i := 1) _ rfl
        have rr2 := YF.out.at_ (i := 2) _ rfl
        have rr3 := YF.out.at_ (i := 3) _ rfl
        have rr4 := YF.out.at_ (i := 4) _ rfl
        exact bodyPost_ret (v := .tuple #[.agg #[.int .i64 (pk % 4294967296), .int .i64 (pv / 65536 % 65536), .int .i64 (pv % 65536), .bool (pv / 4294967296 % 256 == 1), .int .i64 (pv / 1099511627776)], .bool true]) (by simp [results, Tryz.results42, go_sem, rr0, rr1, rr2, rr3, rr4]) rfl (HR.out _ _ ⟨rfl, NF.out⟩)
      · rw [if_neg (fun q => h3 q.2.2)] at HR
        dsimp only at HR
        have g3 : (pv == vl) = false := beq_eq_false_iff_ne.2 h3
        clear hg hg2 h3
        subst h2
        refine wp_region_held_drew (S := fun w' => Same W2 w') (by kernel_rfl) (by (try dsimp only); exact (Mod.refl _ _).drew) (fun hHeld => ?_)
        refine wpAnyH_take (i := 0) (v := ?_) rfl (by kernel_rfl) (by kernel_rfl) (by kernel_rfl) (fun _ _ _ h => h) (Or.inl ⟨by rfl, ?_⟩) (by assumption) ?_
        rotate_left
        · intro w hSw
          try dsimp only at hSw
          have v0 := (hSw.cell V2.out.lt (fun q => q) 0).trans vv0
          have v1 := (hSw.cell V2.out.lt (fun q => q) 1).trans vv1
          have v2 := (hSw.cell V2.out.lt (fun q => q) 2).trans vv2
          have v3 := (hSw.cell V2.out.lt (fun q => q) 3).trans vv3
          have v4 := (hSw.cell V2.out.lt (fun q => q) 4).trans vv4
          go_simp
          try with_reducible rfl
        try simp only [List.getElem_toArray, List.getElem_cons_succ, List.getElem_cons_zero, Act.put, List.setIfInBounds_toArray, List.set_cons_zero, List.set_cons_succ]
        refine wpAnyH_ready (rs := [1]) (by kernel_rfl) (by simp) ?_
        refine AllReadyH.cons rfl (fun Kc hKc => ?_) AllReadyH.nil
        go_simp
        refine (HG.out _).mono ?_
        rintro e wB ⟨rfl, MA⟩
        have A1 := Lib.hid (A0.out.same MA)
        clear MA
        go_wp2_with fail
        refine hKc.out _ _ (by (try dsimp only); exact A1.out) (fun hHeld => ?_)
        clear hKc Kc
        try simp only [List.getElem_toArray, List.getElem_cons_succ, List.getElem_cons_zero, Act.put, List.setIfInBounds_toArray, List.set_cons_zero, List.set_cons_succ]
        refine wpAnyH_take (i := 2) (v := ?_) rfl (by kernel_rfl) (by kernel_rfl) (by kernel_rfl) (fun _ _ _ h => h) (Or.inl ⟨by rfl, ?_⟩) (by assumption) ?_
        rotate_left
        · intro w hSw
          try dsimp only at hSw
          go_simp
          try with_reducible rfl
        try simp only [List.getElem_toArray, List.getElem_cons_succ, List.getElem_cons_zero, Act.put, List.setIfInBounds_toArray, List.set_cons_zero, List.set_cons_succ]
        refine wpAnyH_take (i := 3) (v := ?_) rfl (by kernel_rfl) (by kernel_rfl) (by kernel_rfl) (fun _ _ _ h => h) (Or.inl ⟨by rfl, ?_⟩) (by assumption) ?_
        rotate_left
        · intro w hSw
          try dsimp only at hSw
          go_simp
          try with_reducible rfl
        try simp only [List.getElem_toArray, List.getElem_cons_succ, List.getElem_cons_zero, Act.put, List.setIfInBounds_toArray, List.set_cons_zero, List.set_cons_succ]
        refine wpAnyH_take (i := 4) (v := ?_) rfl (by kernel_rfl) (by kernel_rfl) (by kernel_rfl) (fun _ _ _ h => h) (Or.inl ⟨by rfl, ?_⟩) (by assumption) ?_
        rotate_left
        · intro w hSw
          try dsimp only at hSw
          have v0 := (hSw.cell V2.out.lt (fun q => q) 0).trans vv0
          have v1 := (hSw.cell V2.out.lt (fun q => q) 1).trans vv1
          have v2 := (hSw.cell V2.out.lt (fun q => q) 2).trans vv2
          have v3 := (hSw.cell V2.out.lt (fun q => q) 3).trans vv3
          have v4 := (hSw.cell V2.out.lt (fun q => q) 4).trans vv4
          go_simp
          try with_reducible rfl
        try simp only [List.getElem_toArray, List.getElem_cons_succ, List.getElem_cons_zero, Act.put, List.setIfInBounds_toArray, List.set_cons_zero, List.set_cons_succ]
        refine wpAnyH_take (i := 6) (v := ?_) rfl (by kernel_rfl) (by kernel_rfl) (by kernel_rfl) (fun _ _ _ h => h) (Or.inl ⟨by rfl, ?_⟩) (by assumption) ?_
        rotate_left
        · intro w hSw
          try dsimp only at hSw
          have p0 := (hSw.cell P2.out.lt (fun q => q) 0).trans pp0
          have p1 := (hSw.cell P2.out.lt (fun q => q) 1).trans pp1
          go_simp
          try with_reducible rfl
        try simp only [List.getElem_toArray, List.getElem_cons_succ, List.getElem_cons_zero, Act.put, List.setIfInBounds_toArray, List.set_cons_zero, List.set_cons_succ]
        refine wpAnyH_ready (rs := [5]) (by kernel_rfl) (by simp) ?_
        refine AllReadyH.cons rfl (fun Kc hKc => ?_) AllReadyH.nil
        go_simp
        refine (HPr.out _).mono ?_
        rintro e wB ⟨rfl, MA⟩
        have A2 := Lib.hid (A1.out.same MA)
        clear MA
        go_wp2_with fail
        refine hKc.out _ _ (by (try dsimp only); exact A2.out) (fun hHeld => ?_)
        clear hKc Kc
        try simp only [List.getElem_toArray, List.getElem_cons_succ, List.getElem_cons_zero, Act.put, List.setIfInBounds_toArray, List.set_cons_zero, List.set_cons_succ]
        refine wpAnyH_take (i := 7) (v := ?_) rfl (by kernel_rfl) (by kernel_rfl) (by kernel_rfl) (fun _ _ _ h => h) (Or.inl ⟨by rfl, ?_⟩) (by assumption) ?_
        rotate_left
        · intro w hSw
          try dsimp only at hSw
          go_simp
          try with_reducible rfl
        try simp only [List.getElem_toArray, List.getElem_cons_succ, List.getElem_cons_zero, Act.put, List.setIfInBounds_toArray, List.set_cons_zero, List.set_cons_succ]
        refine wpAnyH_take (i := 8) (v := ?_) rfl (by kernel_rfl) (by kernel_rfl) (by kernel_rfl) (fun _ _ _ h => h) (Or.inl ⟨by rfl, ?_⟩) (by assumption) ?_
        rotate_left
        · intro w hSw
          try dsimp only at hSw
          go_simp
          try with_reducible rfl
        try simp only [List.getElem_toArray, List.getElem_cons_succ, List.getElem_cons_zero, Act.put, List.setIfInBounds_toArray, List.set_cons_zero, List.set_cons_succ]
        refine wpAnyH_done (by kernel_rfl) ?_ _
        have NN := Lib.hid (N2.out.same A2.out)
        have XX := Lib.hid (X2.out.mod A2.out (fun q => q))
        have VV := Lib.hid (V2.out.mod A2.out (fun q => q))
        have q0 := XX.out.at_ (i := 0) _ rfl
        have qf0 := XX.out.free 0
        have s0 := VV.out.at_ (i := 0) _ rfl
        have q1 := XX.out.at_ (i := 1) _ rfl
        have qf1 := XX.out.free 1
        have s1 := VV.out.at_ (i := 1) _ rfl
        have q2 := XX.out.at_ (i := 2) _ rfl
        have qf2 := XX.out.free 2
        have s2 := VV.out.at_ (i := 2) _ rfl
        have q3 := XX.out.at_ (i := 3) _ rfl
        have qf3 := XX.out.free 3
        have s3 := VV.out.at_ (i := 3) _ rfl
        have q4 := XX.out.at_ (i := 4) _ rfl
        have qf4 := XX.out.free 4
        have s4 := VV.out.at_ (i := 4) _ rfl
        have YF := Lib.hid (five_set XX.out (.int .i64 0) (.int .i64 0) (.int .i64 0) (.bool false) (.int .i64 0))
        have NF := Lib.hid (NN.out.then_ (five_mod _ (w.heap.size + 1) (.int .i64 0) (.int .i64 0) (.int .i64 0) (.bool false) (.int .i64 0)) (fun i hi q => by omega))
        go_wp2_with fail
        generalize World.setCell _ _ _ = wF at *
        have rr0 := YF.out.at_ (i := 0) _ rfl
        have rr1 := YF.out.at_ (i := 1) _ rfl
        have rr2 := YF.out.at_ (i := 2) _ rfl
        have rr3 := YF.out.at_ (i := 3) _ rfl
        have rr4 := YF.out.at_ (i := 4) _ rfl
        exact bodyPost_ret (v := .tuple #[.agg #[.int .i64 0, .int .i64 0, .int .i64 0, .bool false, .int .i64 0], .bool false]) (by simp [results, Tryz.results42, go_sem, rr0, rr1, rr2, rr3, rr4]) rfl (HR.out _ _ ⟨rfl, NF.out⟩)
    · rw [if_neg (fun q => h2 q.2.1)] at HR
      dsimp only at HR
      have g2 : (pk == ky) = false := beq_eq_false_iff_ne.2 h2
      clear hg hg2 h2
      refine wp_region_held_drew (S := fun w' => Same W2 w') (by kernel_rfl) (by (try dsimp only); exact (Mod.refl _ _).drew) (fun hHeld => ?_)
      refine wpAnyH_take (i := 0) (v := ?_) rfl (by kernel_rfl) (by kernel_rfl) (by kernel_rfl) (fun _ _ _ h => h) (Or.inl ⟨by rfl, ?_⟩) (by assumption) ?_
      rotate_left
      · intro w hSw
        try dsimp only at hSw
        have v0 := (hSw.cell V2.out.lt (fun q => q) 0).trans vv0
        have v1 := (hSw.cell V2.out.lt (fun q => q) 1).trans vv1
        have v2 := (hSw.cell V2.out.lt (fun q => q) 2).trans vv2
        have v3 := (hSw.cell V2.out.lt (fun q => q) 3).trans vv3
        have v4 := (hSw.cell V2.out.lt (fun q => q) 4).trans vv4
        go_simp
        try with_reducible rfl
      try simp only [List.getElem_toArray, List.getElem_cons_succ, List.getElem_cons_zero, Act.put, List.setIfInBounds_toArray, List.set_cons_zero, List.set_cons_succ]
      refine wpAnyH_ready (rs := [1]) (by kernel_rfl) (by simp) ?_
      refine AllReadyH.cons rfl (fun Kc hKc => ?_) AllReadyH.nil
      go_simp
      refine (HG.out _).mono ?_
      rintro e wB ⟨rfl, MA⟩
      have A1 := Lib.hid (A0.out.same MA)
      clear MA
      go_wp2_with fail
      refine hKc.out _ _ (by (try dsimp only); exact A1.out) (fun hHeld => ?_)
      clear hKc Kc
      try simp only [List.getElem_toArray, List.getElem_cons_succ, List.getElem_cons_zero, Act.put, List.setIfInBounds_toArray, List.set_cons_zero, List.set_cons_succ]
      refine wpAnyH_take (i := 2) (v := ?_) rfl (by kernel_rfl) (by kernel_rfl) (by kernel_rfl) (fun _ _ _ h => h) (Or.inl ⟨by rfl, ?_⟩) (by assumption) ?_
      rotate_left
      · intro w hSw
        try dsimp only at hSw
        go_simp
        try with_reducible rfl
      try simp only [List.getElem_toArray, List.getElem_cons_succ, List.getElem_cons_zero, Act.put, List.setIfInBounds_toArray, List.set_cons_zero, List.set_cons_succ]
      refine wpAnyH_take (i := 3) (v := ?_) rfl (by kernel_rfl) (by kernel_rfl) (by kernel_rfl) (fun _ _ _ h => h) (Or.inl ⟨by rfl, ?_⟩) (by assumption) ?_
      rotate_left
      · intro w hSw
        try dsimp only at hSw
        go_simp
        try with_reducible rfl
      try simp only [List.getElem_toArray, List.getElem_cons_succ, List.getElem_cons_zero, Act.put, List.setIfInBounds_toArray, List.set_cons_zero, List.set_cons_succ]
      refine wpAnyH_take (i := 4) (v := ?_) rfl (by kernel_rfl) (by kernel_rfl) (by kernel_rfl) (fun _ _ _ h => h) (Or.inl ⟨by rfl, ?_⟩) (by assumption) ?_
      rotate_left
      · intro w hSw
        try dsimp only at hSw
        have v0 := (hSw.cell V2.out.lt (fun q => q) 0).trans vv0
        have v1 := (hSw.cell V2.out.lt (fun q => q) 1).trans vv1
        have v2 := (hSw.cell V2.out.lt (fun q => q) 2).trans vv2
        have v3 := (hSw.cell V2.out.lt (fun q => q) 3).trans vv3
        have v4 := (hSw.cell V2.out.lt (fun q => q) 4).trans vv4
        go_simp
        try with_reducible rfl
      try simp only [List.getElem_toArray, List.getElem_cons_succ, List.getElem_cons_zero, Act.put, List.setIfInBounds_toArray, List.set_cons_zero, List.set_cons_succ]
      refine wpAnyH_take (i := 6) (v := ?_) rfl (by kernel_rfl) (by kernel_rfl) (by kernel_rfl) (fun _ _ _ h => h) (Or.inl ⟨by rfl, ?_⟩) (by assumption) ?_
      rotate_left
      · intro w hSw
        try dsimp only at hSw
        have p0 := (hSw.cell P2.out.lt (fun q => q) 0).trans pp0
        have p1 := (hSw.cell P2.out.lt (fun q => q) 1).trans pp1
        go_simp
        try with_reducible rfl
      try simp only [List.getElem_toArray, List.getElem_cons_succ, List.getElem_cons_zero, Act.put, List.setIfInBounds_toArray, List.set_cons_zero, List.set_cons_succ]
      refine wpAnyH_ready (rs := [5]) (by kernel_rfl) (by simp) ?_
      refine AllReadyH.cons rfl (fun Kc hKc => ?_) AllReadyH.nil
      go_simp
      refine (HPr.out _).mono ?_
      rintro e wB ⟨rfl, MA⟩
      have A2 := Lib.hid (A1.out.same MA)
      clear MA
      go_wp2_with fail
      refine hKc.out _ _ (by (try dsimp only); exact A2.out) (fun hHeld => ?_)
      clear hKc Kc
      try simp only [List.getElem_toArray, List.getElem_cons_succ, List.getElem_cons_zero, Act.put, List.setIfInBounds_toArray, List.set_cons_zero, List.set_cons_succ]
      refine wpAnyH_take (i := 7) (v := ?_) rfl (by kernel_rfl) (by kernel_rfl) (by kernel_rfl) (fun _ _ _ h => h) (Or.inl ⟨by rfl, ?_⟩) (by assumption) ?_
      rotate_left
      · intro w hSw
        try dsimp only at hSw
        go_simp
        try with_reducible rfl
      try simp only [List.getElem_toArray, List.getElem_cons_succ, List.getElem_cons_zero, Act.put, List.setIfInBounds_toArray, List.set_cons_zero, List.set_cons_succ]
      refine wpAnyH_take (i := 8) (v := ?_) rfl (by kernel_rfl) (by kernel_rfl) (by kernel_rfl) (fun _ _ _ h => h) (Or.inl ⟨by rfl, ?_⟩) (by assumption) ?_
      rotate_left
      · intro w hSw
        try dsimp only at hSw
        go_simp
        try with_reducible rfl
      try simp only [List.getElem_toArray, List.getElem_cons_succ, List.getElem_cons_zero, Act.put, List.setIfInBounds_toArray, List.set_cons_zero, List.set_cons_succ]
      refine wpAnyH_done (by kernel_rfl) ?_ _
      have NN := Lib.hid (N2.out.same A2.out)
      have XX := Lib.hid (X2.out.mod A2.out (fun q => q))
      have VV := Lib.hid (V2.out.mod A2.out (fun q => q))
      have q0 := XX.out.at_ (i := 0) _ rfl
      have qf0 := XX.out.free 0
      have s0 := VV.out.at_ (i := 0) _ rfl
      have q1 := XX.out.at_ (i := 1) _ rfl
      have qf1 := XX.out.free 1
      have s1 := VV.out.at_ (i := 1) _ rfl
      have q2 := XX.out.at_ (i := 2) _ rfl
      have qf2 := XX.out.free 2
      have s2 := VV.out.at_ (i := 2) _ rfl
      have q3 := XX.out.at_ (i := 3) _ rfl
      have qf3 := XX.out.free 3
      have s3 := VV.out.at_ (i := 3) _ rfl
      have q4 := XX.out.at_ (i := 4) _ rfl
      have qf4 := XX.out.free 4
      have s4 := VV.out.at_ (i := 4) _ rfl
      have YF := Lib.hid (five_set XX.out (.int .i64 0) (.int .i64 0) (.int .i64 0) (.bool false) (.int .i64 0))
      have NF := Lib.hid (NN.out.then_ (five_mod _ (w.heap.size + 1) (.int .i64 0) (.int .i64 0) (.int .i64 0) (.bool false) (.int .i64 0)) (fun i hi q => by omega))
      go_wp2_with fail
      generalize World.setCell _ _ _ = wF at *
      have rr0 := YF.out.at_ (i := 0) _ rfl
      have rr1 := YF.out.at_ (i := 1) _ rfl
      have rr2 := YF.out.at_ (i := 2) _ rfl
      have rr3 := YF.out.at_ (i := 3) _ rfl
      have rr4 := YF.out.at_ (i := 4) _ rfl
      exact bodyPost_ret (v := .tuple #[.agg #[.int .i64 0, .int .i64 0, .int .i64 0, .bool false, .int .i64 0], .bool false]) (by simp [results, Tryz.results42, go_sem, rr0, rr1, rr2, rr3, rr4]) rfl (HR.out _ _ ⟨rfl, NF.out⟩)
end Go.Proofs.YtjkndfenniongaaGreatDoor
set_option maxRecDepth 100000
/- The document's volumes of pairs. -/
namespace Go.Proofs.YtjkndfenniongaaGreatDoor
open Go Go.RowKit
def volsD : List (Int × Int) → Option (List Vl)
  | [] => some []
  | x :: r => if x.1 / 4294967296 = 1 then (match readV x with | none => none | some v => (volsD r).map (v :: ·)) else volsD r
theorem volsD_same : ∀ (L : List (Int × Int)), (∀ x ∈ L, U64 x.1 ∧ U64 x.2) → volsD L = volsL (keepL loK hiK L)
  | [], _ => rfl
  | x :: r, h => by
    have ih := volsD_same r (fun y hy => h y (by simp [hy]))
    have hx := (h x (by simp)).1
    unfold U64 at hx
    have hk : outP loK hiK x = false ↔ x.1 / 4294967296 = 1 := by
      unfold outP loK hiK
      simp only [Bool.or_eq_false_iff, decide_eq_false_iff_not]
      omega
    unfold keepL at ih ⊢
    by_cases q : x.1 / 4294967296 = 1
    · rw [List.filter_cons_of_pos (by rw [hk.2 q]; rfl), volsD, if_pos q, volsL, ih]
      cases readV x <;> rfl
    · have : outP loK hiK x = true := by
        cases ho : outP loK hiK x with
        | true => rfl
        | false => exact absurd (hk.1 ho) q
      rw [List.filter_cons_of_neg (by rw [this]; decide), volsD, if_neg q, ih]
def RVols (L : List (Int × Int)) (B : Nat) (e : Ending) (w' : World) : Prop := match volsD L with
  | none => e = .returned (.tuple #[.slice none 0 0, .bool false])
  | some V => ∃ a c, e = .returned (.tuple #[.slice a V.length c, .bool true]) ∧ Vls w' a V ∧ (∀ b o, a = some ⟨b, o, none⟩ → B ≤ b) ∧ V.length ≤ L.length
set_option maxHeartbeats 8000000 in
theorem rlist_any (a : Option Addr) (c : Nat) (L : List (Int × Int)) (hl : L.length ≤ 100000) (hu : ∀ x ∈ L, U64 x.1 ∧ U64 x.2) (w : World) (hP : Prs w a L) : Calls Tryz.prog 23 #[.slice a L.length c] w fun e w' => RVols L w.heap.size e w' ∧ Same w w' := by
  refine opq fun R HR => ?_
  unfold RVols at HR
  have HP := Lib.hid hP
  have HU := Lib.hid hu
  obtain ⟨n, hn⟩ : ∃ n, L.length = n := ⟨_, rfl⟩
  have HN := Lib.hid hn
  rw [hn] at hl HR ⊢
  obtain ⟨i0, hi, hz0, hz1, hz2⟩ := info_parts info72
  have I0 := Lib.hid hi
  have Z0 := Lib.hid hz0
  have Z1 := Lib.hid hz1
  have Z2 := Lib.hid hz2
  have O0 := Lib.hid (empty_owns w w.heap.size 5 72 (Nat.le_refl _))
  have M0 := Lib.hid (show Same w (w.alloc (.cells #[] 72)) from (Mod.refl _ _).alloc _)
  clear hP hu hi hz0 hz1 hz2 hn
  go_enter Tryz.func23, Tryz.ntmps23
  go_wp2_with fail
  generalize w.alloc _ = W at *
  go_loopw [4, 5] (fun vo vi wr => ∃ (j : Nat) (A : List Vl), j ≤ n ∧ vi = .int .i64 (j : Int) ∧ A.length ≤ j ∧ wr.ownsRow w.heap.size 72 5 vo A.length (A.flatMap vlL) ∧ volsD L = (volsD (L.drop j)).map (A ++ ·) ∧ Same w wr) (fun _ vi _ => n - (intOf vi).toNat)
  case atStart => exact ⟨0, [], by omega, rfl, Nat.le_refl _, O0.out, by simp, M0.out⟩
  case round =>
    obtain ⟨j, A, hj, rfl, hA, hown, hv, M⟩ := hrel
    have J := Lib.hid M
    have OW := Lib.hid hown
    have HV := Lib.hid hv
    have hwr : w.heap.size ≤ wr.heap.size := M.size
    clear M hown hv
    by_cases hlt : j < n
    · obtain ⟨b, o, rfl, hb, hc⟩ := HP.out (by rw [HN.out]; omega)
      obtain ⟨x, hx⟩ : ∃ x, L[j]? = some x := ⟨_, List.getElem?_eq_getElem (by rw [HN.out]; omega)⟩
      have hdx : L.drop j = x :: L.drop (j + 1) := by
        have := List.drop_eq_getElem_cons (l := L) (i := j) (by rw [HN.out]; exact hlt)
        rw [this]
        congr 1
        exact (List.getElem?_eq_some_iff.1 hx).2
      have e0 := (J.out.cell hb (fun q => q) _).trans (hc j x hx).1
      have e1 := (J.out.cell hb (fun q => q) _).trans (hc j x hx).2
      have hux := HU.out x (List.mem_of_getElem? hx)
      have HVr := Lib.hid (fun w => rvread_any x hux.1 hux.2 w)
      have HDx := Lib.hid hdx
      have hu1 : 0 ≤ x.1 ∧ x.1 ≤ 18446744073709551615 := hux.1
      clear hc hx hdx hux
      by_cases hq : x.1 / 4294967296 = 1
      · have g1 : (x.1 / 4294967296 != 1) = false := by simp [hq]
        have g2 : (x.1 / 4294967296 == 1) = true := by simp [hq]
        have HQ := Lib.hid hq
        clear hq
        go_wp2_with fail
        refine (HVr.out wr).mono ?_
        rintro e w5 ⟨rfl, M⟩
        have J5 := Lib.hid (J.out.same M)
        have O5 := Lib.hid (own_mod2 OW.out M (fun _ _ q => q))
        have hsz : w.heap.size ≤ w5.heap.size := J5.out.size
        clear M e0 e1 HVr g1 g2
        cases hrd : readV x with
        | none =>
          have hres : volsD L = none := by rw [HV.out, HDx.out, volsD, if_pos HQ.out, hrd]; rfl
          rw [hres] at HR
          dsimp only
          go_wp2_with fail
          exact HR.out _ _ ⟨rfl, J5.out.alloc _⟩
        | some v =>
          have hres : volsD L = (volsD (L.drop (j + 1))).map ((A ++ [v]) ++ ·) := by
            rw [HV.out, HDx.out, volsD, if_pos HQ.out, hrd]
            cases volsD (L.drop (j + 1)) <;> simp
          have HRs := Lib.hid hres
          clear hres hrd HV HDx
          dsimp only [vlV]
          have J6 := Lib.hid (J5.out.alloc (.cells (vlC v) 72))
          have O6 := Lib.hid (O5.out.alloc (.cells (vlC v) 72))
          have X6 := Lib.hid (Blk.new w5 (vlC v) 72)
          have x0 := X6.out.at_ (i := 0) _ rfl
          have x1 := X6.out.at_ (i := 1) _ rfl
          have x2 := X6.out.at_ (i := 2) _ rfl
          have x3 := X6.out.at_ (i := 3) _ rfl
          have x4 := X6.out.at_ (i := 4) _ rfl
          generalize hAL : A.flatMap vlL = AL at *
          obtain ⟨an, han⟩ : ∃ z, A.length = z := ⟨_, rfl⟩
          have HAn := Lib.hid han
          rw [han] at O6 hA
          clear han
          go_wp2_with (at_builtin; refine wpList_append_lies _ rfl (.tmp 32) (.tmp 34) 65 rfl w.heap.size 72 i0 (.agg #[.int .i64 0, .int .i64 0, .int .i64 0, .bool false, .int .i64 0]) 5 40 Tryz.underlying65 I0.out Z0.out Z1.out Z2.out rfl (by decide) _ an _ rfl (O6.out.alloc _) ⟨w5.heap.size + 1, 0, none⟩ 1 1 (vlL v) rfl rfl (by have := vl_new (w5.alloc (.cells (vlC v) 72)) v 72; rw [World.size_alloc] at this; exact this) (vl_cells v) (by decide) (by unfold maxLen; omega) (by omega) (by simp only [World.size_alloc]; omega) _ rfl ?_; intro g cap w6 hown6 hgrow hgb hglt; have P6 := Lib.hid (same_app4 (J6.out.alloc _) (O6.out.alloc _) hgrow); have Q6 := Lib.hid hown6; clear hown6 hgrow hgb hglt x0 x1 x2 x3 x4)
          go_roundw
          case rel => exact ⟨j + 1, A ++ [v], by omega, by go_num, by rw [List.length_append, HAn.out]; simp; omega, by rw [List.length_append, HAn.out, List.flatMap_append, hAL]; simpa using Q6.out, HRs.out, P6.out⟩
          case measure => simp [intOf]; omega
      · have g1 : (x.1 / 4294967296 != 1) = true := by simp [hq]
        have g2 : (x.1 / 4294967296 == 1) = false := by simp [hq]
        have HQ := Lib.hid hq
        clear hq
        have HRs := Lib.hid (show volsD L = (volsD (L.drop (j + 1))).map (A ++ ·) by rw [HV.out, HDx.out, volsD, if_neg HQ.out])
        go_wp2_with fail
        go_roundw
        case rel => exact ⟨j + 1, A, by omega, by go_num, by omega, OW.out, HRs.out, J.out⟩
        case measure => simp [intOf]; omega
    · obtain rfl : j = n := by omega
      have hres : volsD L = some A := by rw [HV.out, List.drop_of_length_le (by rw [HN.out]; omega), volsD]; simp
      rw [hres] at HR
      have hvo := OW.out
      obtain ⟨a', c', rfl, hVl⟩ := vls_own hvo
      have VL := Lib.hid hVl
      have HFr := Lib.hid (fun (b o : Nat) (q : a' = some ⟨b, o, none⟩) => (hvo.lt b (by rw [q]; rfl)).1)
      clear hvo hVl hres
      dsimp only at HR
      go_wp2_with fail
      exact HR.out _ _ ⟨⟨a', c', rfl, VL.out, HFr.out, hA⟩, J.out⟩
end Go.Proofs.YtjkndfenniongaaGreatDoor
set_option maxRecDepth 100000
/- The document's pages in memory. -/
namespace Go.Proofs.YtjkndfenniongaaGreatDoor
open Go Go.RowKit
/-- A kind as the document writes it. -/
def kS (k : Int) : Value := .string ⟨#[UInt8.ofNat k.toNat]⟩
/-- The document's pages in block g, each with a row of volumes of its own; F: the blocks that the caller keeps. -/
structure Pgd (B : Nat) (F : Nat → Prop) (w : World) (g : Nat) (V : Nat → Value) (L : List Pd) : Prop where
  lt : g < w.heap.size
  c0 : ∀ i x, L[i]? = some x → w.cell? ⟨g, i * 4, none⟩ = some (kS x.k)
  c1 : ∀ i x, L[i]? = some x → w.cell? ⟨g, i * 4 + 1, none⟩ = some (.int .i64 x.l)
  c2 : ∀ i x, L[i]? = some x → w.cell? ⟨g, i * 4 + 2, none⟩ = some (.int .i64 x.p)
  c3 : ∀ i x, L[i]? = some x → w.cell? ⟨g, i * 4 + 3, none⟩ = some (V i)
  free : ∀ j, w.frozen? ⟨g, j, none⟩ = false
  own : ∀ i x, L[i]? = some x → w.ownsRow B 3 1 (V i) x.vs.length (x.vs.map fun x => .int .i64 x)
  fg : ¬ F g
  fb : ∀ i, F i → i < w.heap.size
  vf : ∀ i b, i < L.length → (V i).ownBlock = some b → b ≠ g ∧ ¬ F b
  ap : ∀ i j b, i < L.length → j < L.length → i ≠ j → (V i).ownBlock = some b → (V j).ownBlock ≠ some b
section
variable {B : Nat} {F : Nat → Prop} {w w' : World} {g : Nat} {V : Nat → Value} {L : List Pd}
theorem Pgd.same (h : Pgd B F w g V L) (M : Same w w') : Pgd B F w' g V L :=
  ⟨Nat.lt_of_lt_of_le h.lt M.size, fun i x q => (M.cell h.lt (fun q => q) _).trans (h.c0 i x q), fun i x q => (M.cell h.lt (fun q => q) _).trans (h.c1 i x q), fun i x q => (M.cell h.lt (fun q => q) _).trans (h.c2 i x q), fun i x q => (M.cell h.lt (fun q => q) _).trans (h.c3 i x q),
    fun j => (M.frozen h.lt (fun q => q) j).trans (h.free j), fun i x q => own_mod2 (h.own i x q) M (fun _ _ q => q), h.fg, fun i q => Nat.lt_of_lt_of_le (h.fb i q) M.size, h.vf, h.ap⟩
theorem Pgd.lt_own (h : Pgd B F w g V L) {i b : Nat} (hi : i < L.length) (hb : (V i).ownBlock = some b) : B ≤ b ∧ b < w.heap.size :=
  (h.own i _ (List.getElem?_eq_getElem hi)).lt b hb
theorem Pgd.more (h : Pgd B F w g V L) (M : Same w w') : Pgd B (fun i => F i ∨ (w.heap.size ≤ i ∧ i < w'.heap.size)) w' g V L := by
  have h' := h.same M
  exact ⟨h'.lt, h'.c0, h'.c1, h'.c2, h'.c3, h'.free, h'.own, fun q => q.elim h.fg (fun q => by have := h.lt; omega), fun i q => q.elim (h'.fb i) (fun q => q.2),
    fun i b hi hb => ⟨(h.vf i b hi hb).1, fun r => r.elim (h.vf i b hi hb).2 (fun r => by have := (h.lt_own hi hb).2; omega)⟩, h.ap⟩
theorem Pgd.less {F' : Nat → Prop} (h : Pgd B F w g V L) (c : ∀ i, F' i → F i) : Pgd B F' w g V L :=
  ⟨h.lt, h.c0, h.c1, h.c2, h.c3, h.free, h.own, fun q => h.fg (c _ q), fun i q => h.fb i (c i q), fun i b hi hb => ⟨(h.vf i b hi hb).1, fun r => (h.vf i b hi hb).2 (c b r)⟩, h.ap⟩
/-- What turns one page's cells alone (and the row of its volumes). -/
theorem Pgd.turn (h : Pgd B F w g V L) {i : Nat} {x y : Pd} (hx : L[i]? = some x) {S : Nat → Prop} (M : Mod S w w') (hS : ∀ b, S b → b = g ∨ (V i).ownBlock = some b) {v' : Value}
    (hfar : ∀ j, j / 4 ≠ i → w'.cell? ⟨g, j, none⟩ = w.cell? ⟨g, j, none⟩) (hfree : ∀ j, w'.frozen? ⟨g, j, none⟩ = false)
    (d0 : w'.cell? ⟨g, i * 4, none⟩ = some (kS y.k)) (d1 : w'.cell? ⟨g, i * 4 + 1, none⟩ = some (.int .i64 y.l)) (d2 : w'.cell? ⟨g, i * 4 + 2, none⟩ = some (.int .i64 y.p)) (d3 : w'.cell? ⟨g, i * 4 + 3, none⟩ = some v')
    (hown : w'.ownsRow B 3 1 v' y.vs.length (y.vs.map fun x => .int .i64 x)) (hv : ∀ b, v'.ownBlock = some b → (V i).ownBlock = some b ∨ w.heap.size ≤ b) :
    Pgd B F w' g (upd V i v') (L.set i y) ∧ Mod (fun b => ¬ F b) w w' := by
  have hil : i < L.length := (List.getElem?_eq_some_iff.1 hx).1
  have hget : ∀ j z, (L.set i y)[j]? = some z → (j = i ∧ z = y) ∨ (j ≠ i ∧ L[j]? = some z) := fun j z hz => by
    by_cases q : j = i
    · subst q
      rw [List.getElem?_set_self hil] at hz
      exact .inl ⟨rfl, (Option.some.inj hz).symm⟩
    · rw [List.getElem?_set_ne (fun e => q e.symm)] at hz
      exact .inr ⟨q, hz⟩
  have hvF : ∀ b, v'.ownBlock = some b → b ≠ g ∧ ¬ F b := fun b hb => by
    rcases hv b hb with q | q
    · exact h.vf i b hil q
    · exact ⟨by have := h.lt; omega, fun r => by have := h.fb b r; omega⟩
  refine ⟨⟨Nat.lt_of_lt_of_le h.lt M.size, ?_, ?_, ?_, ?_, hfree, ?_, h.fg, fun i q => Nat.lt_of_lt_of_le (h.fb i q) M.size, ?_, ?_⟩, M.mono (fun b _ q => (hS b q).elim (fun e => by rw [e]; exact h.fg) (fun e => (h.vf i b hil e).2))⟩
  · intro j z hz
    rcases hget j z hz with ⟨rfl, rfl⟩ | ⟨q, hz⟩
    · exact d0
    · rw [hfar _ (by omega)]; exact h.c0 j z hz
  · intro j z hz
    rcases hget j z hz with ⟨rfl, rfl⟩ | ⟨q, hz⟩
    · exact d1
    · rw [hfar _ (by omega)]; exact h.c1 j z hz
  · intro j z hz
    rcases hget j z hz with ⟨rfl, rfl⟩ | ⟨q, hz⟩
    · exact d2
    · rw [hfar _ (by omega)]; exact h.c2 j z hz
  · intro j z hz
    unfold upd
    rcases hget j z hz with ⟨rfl, rfl⟩ | ⟨q, hz⟩
    · rw [if_pos rfl]; exact d3
    · rw [hfar _ (by omega), if_neg q]; exact h.c3 j z hz
  · intro j z hz
    unfold upd
    rcases hget j z hz with ⟨rfl, rfl⟩ | ⟨q, hz⟩
    · rw [if_pos rfl]; exact hown
    · rw [if_neg q]
      have hj : j < L.length := (List.getElem?_eq_some_iff.1 hz).1
      exact own_mod2 (h.own j z hz) M (fun b hb r => (hS b r).elim (fun e => (h.vf j b hj hb).1 e) (fun e => h.ap i j b hil hj (fun e => q e.symm) e hb))
  · intro j b hj hb
    rw [List.length_set] at hj
    unfold upd at hb
    by_cases q : j = i
    · rw [if_pos q] at hb; exact hvF b hb
    · rw [if_neg q] at hb; exact h.vf j b hj hb
  · intro j j' b hj hj' hne hb
    rw [List.length_set] at hj hj'
    unfold upd at hb ⊢
    by_cases q : j = i
    · rw [if_pos q] at hb
      rw [if_neg (by omega)]
      rcases hv b hb with r | r
      · exact h.ap i j' b hil hj' (by omega) r
      · exact fun e => by have := (h.lt_own hj' e).2; omega
    · rw [if_neg q] at hb
      by_cases q' : j' = i
      · rw [if_pos q']
        intro e
        rcases hv b e with r | r
        · exact h.ap i j b hil hj (by omega) r hb
        · have := (h.lt_own hj hb).2; omega
      · rw [if_neg q']; exact h.ap j j' b hj hj' hne hb
end
theorem map_find {B : Nat} {F : Nat → Prop} {w w1 W : World} {g : Nat} {V : Nat → Value} {L : List Pd} (P : Pgd B F w g V L) {i : Nat} {x : Pd} (hx : L[i]? = some x) {id : Int} {vv : Value} (hv : V i = vv) (M1 : Mod (fun b => vv.ownBlock = some b) w w1) {gg cap n : Nat} (hn : x.vs.length = n)
    (hown : w1.ownsRow B 3 1 (.slice (some ⟨gg, 0, none⟩) (n + 1) cap) (n + 1) ((x.vs.map fun x => .int .i64 x) ++ [.int .i64 id])) (GB : vv.ownBlock = some gg ∨ w.heap.size ≤ gg) (MW : Mod (fun b => b = g) w1 W) {kk : Int} (hk : kk = if x.vs.length + 1 ≥ 2 then 83 else 77)
    (hfar : ∀ j, j / 4 ≠ i → W.cell? ⟨g, j, none⟩ = w1.cell? ⟨g, j, none⟩) (d0 : W.cell? ⟨g, i * 4, none⟩ = some (kS kk)) (d1 : W.cell? ⟨g, i * 4 + 1, none⟩ = some (.int .i64 x.l)) (d2 : W.cell? ⟨g, i * 4 + 2, none⟩ = some (.int .i64 x.p)) (d3 : W.cell? ⟨g, i * 4 + 3, none⟩ = some (.slice (some ⟨gg, 0, none⟩) (n + 1) cap))
    (hfree : ∀ j, W.frozen? ⟨g, j, none⟩ = w1.frozen? ⟨g, j, none⟩) :
    (∃ V', Pgd B F W g V' (L.set i (mapP id x))) ∧ Mod (fun b => ¬ F b) w W := by
  have hil : i < L.length := (List.getElem?_eq_some_iff.1 hx).1
  have hvg : vv.ownBlock ≠ some g := fun e => (P.vf i g hil (by rw [hv]; exact e)).1 rfl
  have hgg : gg ≠ g := by
    rcases GB with q | q
    · exact fun e => hvg (by rw [q, e])
    · have := P.lt; omega
  subst hk
  have R := P.turn (y := mapP id x) hx (S := fun b => b = g ∨ vv.ownBlock = some b) ((M1.mono (fun _ _ q => .inr q)).then_ MW (fun _ _ q => .inl q)) (fun b q => by rw [hv]; exact q)
    (fun j hj => (hfar j hj).trans (M1.cell P.lt hvg _)) (fun j => (hfree j).trans ((M1.frozen P.lt hvg j).trans (P.free j))) d0 d1 d2 d3 (by
      unfold mapP
      dsimp only
      rw [List.length_append, List.map_append, hn]
      exact own_mod2 hown MW (fun b hb q => by simp [Value.ownBlock] at hb; omega)) (fun b hb => by simp [Value.ownBlock] at hb; subst hb; rw [hv]; exact GB)
  exact ⟨⟨_, R.1⟩, R.2⟩
theorem kind_putd {B : Nat} {F : Nat → Prop} {w : World} {g : Nat} {V : Nat → Value} {L : List Pd} (P : Pgd B F w g V L) {j : Nat} {x : Pd} (hx : L[j]? = some x) (kk : Int) :
    (∃ V', Pgd B F (w.setCell ⟨g, j * 4, none⟩ (kS kk)) g V' (L.set j { x with k := kk })) ∧ Mod (fun b => ¬ F b) w (w.setCell ⟨g, j * 4, none⟩ (kS kk)) := by
  have hil : j < L.length := (List.getElem?_eq_some_iff.1 hx).1
  obtain ⟨b0, b1, b2, b3, bf, bm⟩ := kind_set (P.c0 j x hx) (P.c1 j x hx) (P.c2 j x hx) (P.c3 j x hx) (kS kk)
  have R := P.turn (y := { x with k := kk }) hx bm (fun b q => .inl q) (fun t ht => bf t (by omega)) (fun t => by rw [frozen_setCell]; exact P.free t) b0 b1 b2 b3 (own_mod2 (P.own j x hx) bm (fun b hb q => (P.vf j b hil hb).1 q)) (fun b hb => .inl hb)
  exact ⟨⟨_, R.1⟩, R.2⟩
theorem fill_setd {B : Nat} {F : Nat → Prop} {w : World} {g : Nat} {V : Nat → Value} {L : List Pd} (P : Pgd B F w g V L) {j : Nat} {x : Pd} (hx : L[j]? = some x) (lv nl : Int) :
    (∃ V', Pgd B F ((w.setCell ⟨g, j * 4 + 1, none⟩ (.int .i64 lv)).setCell ⟨g, j * 4 + 2, none⟩ (.int .i64 nl)) g V' (L.set j { x with l := lv, p := nl })) ∧ Mod (fun b => ¬ F b) w ((w.setCell ⟨g, j * 4 + 1, none⟩ (.int .i64 lv)).setCell ⟨g, j * 4 + 2, none⟩ (.int .i64 nl)) := by
  have hil : j < L.length := (List.getElem?_eq_some_iff.1 hx).1
  have M : Mod (fun b => b = g) w ((w.setCell ⟨g, j * 4 + 1, none⟩ (.int .i64 lv)).setCell ⟨g, j * 4 + 2, none⟩ (.int .i64 nl)) := ((Mod.refl (fun b => b = g) w).setCell (p := ⟨g, j * 4 + 1, none⟩) (fun _ => rfl) _).setCell (p := ⟨g, j * 4 + 2, none⟩) (fun _ => rfl) _
  have hfar : ∀ t, t ≠ j * 4 + 1 → t ≠ j * 4 + 2 → ((w.setCell ⟨g, j * 4 + 1, none⟩ (.int .i64 lv)).setCell ⟨g, j * 4 + 2, none⟩ (.int .i64 nl)).cell? ⟨g, t, none⟩ = w.cell? ⟨g, t, none⟩ := fun t h1 h2 => by
    rw [World.cell?_setCell_other _ _ _ _ (fun e => by injection e; omega), World.cell?_setCell_other _ _ _ _ (fun e => by injection e; omega)]
  have c1' : (w.setCell ⟨g, j * 4 + 1, none⟩ (.int .i64 lv)).cell? ⟨g, j * 4 + 2, none⟩ = some (.int .i64 x.p) := by
    rw [World.cell?_setCell_other _ _ _ _ (fun e => by injection e; omega)]; exact P.c2 j x hx
  have R := P.turn (y := { x with l := lv, p := nl }) hx M (fun b q => .inl q) (fun t ht => hfar t (by omega) (by omega)) (fun t => by rw [frozen_setCell, frozen_setCell]; exact P.free t)
    ((hfar _ (by omega) (by omega)).trans (P.c0 j x hx)) (by
      rw [World.cell?_setCell_other _ _ _ _ (fun e => by injection e; omega)]
      exact World.cell?_setCell_same _ _ _ (P.c1 j x hx)) (World.cell?_setCell_same _ _ _ c1') ((hfar _ (by omega) (by omega)).trans (P.c3 j x hx)) (own_mod2 (P.own j x hx) M (fun b hb q => (P.vf j b hil hb).1 q)) (fun b hb => .inl hb)
  exact ⟨⟨_, R.1⟩, R.2⟩
theorem Pgd.base {B B' : Nat} {F : Nat → Prop} {w : World} {g : Nat} {V : Nat → Value} {L : List Pd} (h : Pgd B F w g V L) (hb : B' ≤ B) : Pgd B' F w g V L :=
  ⟨h.lt, h.c0, h.c1, h.c2, h.c3, h.free, fun i x q => own_base (h.own i x q) hb, h.fg, h.fb, h.vf, h.ap⟩
theorem own_one (w : World) (base size : Nat) (t : TypeId) (cs : Array Value) (hb : base ≤ w.heap.size) (hs : cs.size = size) : (w.alloc (.cells cs t)).ownsRow base t size (.slice (some ⟨w.heap.size, 0, none⟩) 1 1) 1 cs.toList :=
  ⟨by rw [Array.length_toList, hs, Nat.one_mul], .inr ⟨w.heap.size, 1, cs, rfl, hb, heap_new _ _, Nat.le_refl _, by decide, by rw [hs, Nat.one_mul], by rw [Nat.one_mul, ← hs, List.take_of_length_le (by rw [Array.length_toList]; exact Nat.le_refl _)]⟩⟩
def pdC (x : Pd) : List Value := [kS x.k, .int .i64 x.l, .int .i64 x.p, .slice none 0 0]
theorem pdC_len (L : List Pd) : (L.flatMap pdC).length = L.length * 4 := by
  induction L with
  | nil => rfl
  | cons x L ih => rw [List.flatMap_cons, List.length_append, ih, List.length_cons]; simp [pdC]; omega
theorem pdC_get : ∀ (L : List Pd) (i j : Nat) (x : Pd), L[i]? = some x → j < 4 → (L.flatMap pdC)[i * 4 + j]? = (pdC x)[j]?
  | [], i, j, x, h, _ => by simp at h
  | y :: L, 0, j, x, h, hj => by
    simp at h
    subst h
    rw [List.flatMap_cons, Nat.zero_mul, Nat.zero_add, List.getElem?_append_left (by simpa [pdC] using hj)]
  | y :: L, i + 1, j, x, h, hj => by
    rw [List.flatMap_cons, List.getElem?_append_right (by simp [pdC]; omega)]
    rw [show (i + 1) * 4 + j - (pdC y).length = i * 4 + j by simp [pdC]; omega]
    exact pdC_get L i j x (by simpa using h) hj
theorem blankD_succ (n : Nat) (h : 0 < n) : blankD (n + 1) = blankD n ++ [⟨46, 0, 0, []⟩] := by
  unfold blankD
  rw [List.range_succ, List.map_append]
  simp
  omega
theorem blank_pgdoc {B : Nat} {w : World} {g n c : Nat} {F : Nat → Prop} {base : Nat} (h : w.ownsRow base 36 4 (.slice (some ⟨g, 0, none⟩) n c) n ((blankD n).flatMap pdC)) (hn : 0 < n) (hF : ¬ F g) (hfb : ∀ i, F i → i < w.heap.size) : Pgd B F w g (fun _ => .slice none 0 0) (blankD n) := by
  obtain ⟨g', cap, hv, hb, hc, hr⟩ := RowV.of_owns h hn
  simp only [Value.slice.injEq, Option.some.injEq, Addr.mk.injEq] at hv
  obtain ⟨⟨rfl, -, -⟩, -, -⟩ := hv
  have hget : ∀ i x, (blankD n)[i]? = some x → ∀ t, t < 4 → w.cell? ⟨g, i * 4 + t, none⟩ = (pdC x)[t]? := fun i x hx t ht => by
    obtain ⟨hi, _⟩ := blankD_get hx
    refine (hr.cell (i * 4 + t) (by omega)).trans ?_
    rw [List.getD_eq_getElem?_getD, pdC_get _ i t x hx ht]
    have : t < (pdC x).length := by simpa [pdC] using ht
    rw [List.getElem?_eq_getElem this]; rfl
  have hvs : ∀ (i : Nat) (x : Pd), (blankD n)[i]? = some x → x.vs = [] := fun i x hx => by
    obtain ⟨_, rfl⟩ := blankD_get hx
    by_cases q : i = 0
    · rw [if_pos q]
    · rw [if_neg q]
  refine ⟨hr.lt, fun i x hx => ?_, fun i x hx => hget i x hx 1 (by omega), fun i x hx => hget i x hx 2 (by omega), fun i x hx => hget i x hx 3 (by omega), hr.free, fun i x hx => ?_, hF, hfb, fun i b _ q => by simp [Value.ownBlock] at q, fun i j b _ _ _ q => by simp [Value.ownBlock] at q⟩
  · have := hget i x hx 0 (by omega)
    rwa [Nat.add_zero] at this
  · rw [hvs i x hx]; exact World.ownsRow_nil _ _ _ _
theorem nodeD_len (l : List UInt8) (p : Nat) : (nodeD l p).2.length ≤ 15 := by
  unfold nodeD
  cases h : leafP (pageD l p) with
  | none => simp
  | some q => exact (good_len (leafP_good (lv := q.1) (L := q.2) h)).1
theorem nodeD_u64 (l : List UInt8) (p : Nat) : ∀ x ∈ (nodeD l p).2, U64 x.1 ∧ U64 x.2 := by
  unfold nodeD
  cases h : leafP (pageD l p) with
  | none => intro x hx; simp at hx
  | some q => exact leafP_u64 (lv := q.1) (L := q.2) h
theorem lookK_congr {f f' : Int × Int → Int → Bool → WSt → Option WSt} (hf : ∀ x h e st, f x h e st = f' x h e st) (has : Bool) (hi lv : Int) : ∀ (L : List (Int × Int)) (st : WSt), lookK f has hi lv L st = lookK f' has hi lv L st := by
  have : f = f' := by funext x h e st; exact hf x h e st
  subst this
  exact fun _ _ => rfl
theorem lookN_congr {nd nd' : Nat → Int × List (Int × Int)} {n : Nat} (h : ∀ i, i < n → nd i = nd' i) : ∀ (m : Nat) (p lvl fi hi : Int) (has : Bool) (st : WSt), lookN nd n m p lvl fi has hi st = lookN nd' n m p lvl fi has hi st
  | 0, _, _, _, _, _, _ => rfl
  | m + 1, p, lvl, fi, hi, has, st => by
    have ih := lookN_congr h m
    rw [lookN, lookN]
    by_cases hp : p < 1 ∨ (n : Int) < p
    · rw [if_pos hp, if_pos hp]
    · rw [if_neg hp, if_neg hp, h (p.toNat - 1) (by omega)]
      by_cases hc : st.1.contains p = true
      · rw [if_pos hc, if_pos hc]
      · rw [if_neg hc, if_neg hc, lookK_congr (fun x hh e st' => ih x.2 _ x.1 hh e st')]
theorem look_walk (l : List UInt8) (hl : l.length ≤ 32768) (h2 : 2 ≤ l.length / 256) (root : Int) : lookR (fun i => nodeD l (i + 1)) (min (l.length / 256) 512 - 1) root = walkW (secs l) root := by
  have hnp := np_same l hl
  unfold lookR walkW
  by_cases h0 : root = 0
  · rw [if_pos h0, if_pos h0]
  · rw [if_neg h0, if_neg h0]
    have hs := look_same (secs l) 9 root (-1) 0 0 false ([], []) (by rw [hnp]; omega)
    rw [hnp] at hs
    rw [show decide ((0 : Int) ≤ -1) = false by decide] at hs
    rw [← hs]
    exact lookN_congr (fun i hi => by rw [node_same l hl i (by omega)]; rfl) 9 root (-1) 0 0 false ([], [])
end Go.Proofs.YtjkndfenniongaaGreatDoor
