import Derived.Test.YtjkndfenniongaaGreatDoorAvQ
import Derived.Test.YtjkndfenniongaaGreatDoorAvK
set_option linter.unusedSimpArgs false
set_option linter.unusedVariables false
set_option maxRecDepth 100000
/- What a walk brings, in plain words. -/
namespace Go.Proofs.YtjkndfenniongaaGreatDoor
open Go Go.RowKit
theorem kidsW_inv {f : Int × Int → Int → Bool → WSt → Option WSt} {Q : WSt → Prop} (hi : Int) (isEnd : Bool) (hf : ∀ x h e st st', f x h e st = some st' → Q st → Q st') : ∀ (R : List (Int × Int)) (st st' : WSt), kidsW f hi isEnd R st = some st' → Q st → Q st'
  | [], st, st', h, q => by simp only [kidsW] at h; cases h; exact q
  | [x], st, st', h, q => by simp only [kidsW] at h; exact hf _ _ _ _ _ h q
  | x :: y :: r, st, st', h, q => by
    simp only [kidsW] at h
    cases hx : f x y.1 true st with
    | none => rw [hx] at h; cases h
    | some st2 => rw [hx] at h; exact kidsW_inv hi isEnd hf (y :: r) st2 st' h (hf _ _ _ _ _ hx q)
theorem nodeW_inv (S : List (List UInt8)) (Q : WSt → Prop) (hstep : ∀ (st : WSt) (p lv : Int) (L : List (Int × Int)), (1 ≤ p ∧ p < ((min (S.length / 16) 512 : Nat) : Int)) → leafP (pageS S p.toNat) = some (lv, L) → Q st → Q (st.1 ++ [p], st.2) ∧ Q (st.1 ++ [p], st.2 ++ L)) :
    ∀ (n : Nat) (p lvl fi : Int) (isSub : Bool) (hi : Int) (isEnd : Bool) (st st' : WSt), nodeW S n p lvl fi isSub hi isEnd st = some st' → Q st → Q st'
  | 0, p, lvl, fi, isSub, hi, isEnd, st, st', h, q => by simp only [nodeW] at h; cases h
  | n + 1, p, lvl, fi, isSub, hi, isEnd, st, st', h, q => by
    rcases nodeE_form S p lvl with ⟨er, hne, _⟩ | ⟨lv, L, hne, _⟩
    · rw [nodeW_none S n p lvl fi hi isSub isEnd st hne] at h; cases h
    · obtain ⟨hp, hl⟩ := nodeE_leaf hne
      have hs := hstep st p lv L hp hl q
      cases hc : st.1.contains p with
      | true => rw [nodeW_cut S n p lvl fi hi isSub isEnd st hne (.inl hc)] at h; cases h
      | false =>
        cases hc2 : rightP fi isSub hi isEnd lv (L.getD 0 (0, 0)) (L.getD (L.length - 1) (0, 0)) L.length with
        | false => rw [nodeW_cut S n p lvl fi hi isSub isEnd st hne (.inr hc2)] at h; cases h
        | true =>
          by_cases h0 : lv = 0
          · rw [nodeW_leaf S n p lvl fi hi isSub isEnd st hne hc hc2 h0] at h; cases h; exact hs.2
          · rw [nodeW_kids S n p lvl fi hi isSub isEnd st hne hc hc2 h0] at h
            exact kidsW_inv hi isEnd (fun x h e st st' hx hq => nodeW_inv S Q hstep n x.2 (lv - 1) x.1 true h e st st' hx hq) L _ _ h hs.1
theorem walkW_inv (S : List (List UInt8)) (Q : WSt → Prop) (hstep : ∀ (st : WSt) (p lv : Int) (L : List (Int × Int)), (1 ≤ p ∧ p < ((min (S.length / 16) 512 : Nat) : Int)) → leafP (pageS S p.toNat) = some (lv, L) → Q st → Q (st.1 ++ [p], st.2) ∧ Q (st.1 ++ [p], st.2 ++ L)) (h0 : Q ([], []))
    (root : Int) (st : WSt) (h : walkW S root = some st) : Q st := by
  unfold walkW at h
  split at h
  · cases h; exact h0
  · exact nodeW_inv S Q hstep _ _ _ _ _ _ _ _ _ h h0
theorem walk_pairs {S : List (List UInt8)} {root : Int} {st : WSt} (h : walkW S root = some st) : ∀ x ∈ st.2, U64 x.1 ∧ U64 x.2 :=
  walkW_inv S (fun st => ∀ x ∈ st.2, U64 x.1 ∧ U64 x.2) (fun st p lv L hp hl q => ⟨q, fun x hx => by
    rcases List.mem_append.1 hx with r | r
    · exact q x r
    · exact leafP_u64 hl x r⟩) (fun x hx => by simp at hx) root st h
theorem walk_pages {S : List (List UInt8)} {root : Int} {st : WSt} (h : walkW S root = some st) : ∀ p ∈ st.1, (1 ≤ p ∧ p < ((min (S.length / 16) 512 : Nat) : Int)) ∧ ∃ lv L, leafP (pageS S p.toNat) = some (lv, L) :=
  walkW_inv S (fun st => ∀ p ∈ st.1, (1 ≤ p ∧ p < ((min (S.length / 16) 512 : Nat) : Int)) ∧ ∃ lv L, leafP (pageS S p.toNat) = some (lv, L)) (fun st p lv L hp hl q => by
    have : ∀ p' ∈ st.1 ++ [p], (1 ≤ p' ∧ p' < ((min (S.length / 16) 512 : Nat) : Int)) ∧ ∃ lv L, leafP (pageS S p'.toNat) = some (lv, L) := fun x hx => by
      rcases List.mem_append.1 hx with r | r
      · exact q x r
      · simp at r; subst r; exact ⟨hp, lv, L, hl⟩
    exact ⟨this, this⟩) (fun x hx => by simp at hx) root st h
/-- The volumes of pairs; none: one is none's. -/
def volsL : List (Int × Int) → Option (List Vl)
  | [] => some []
  | x :: r => match readV x with
    | none => none
    | some v => (volsL r).map (v :: ·)
def loK : Int := 4294967296
def hiK : Int := 8589934591
/-- The volumes of a tree. -/
def treeVols (S : List (List UInt8)) (root : Int) : Option (List Vl) := (walkW S root).bind fun st => volsL (keepL loK hiK st.2)
/-- Volumes in memory. -/
def Vls (w : World) (a : Option Addr) (L : List Vl) : Prop := 0 < L.length → ∃ b o, a = some ⟨b, o, none⟩ ∧ b < w.heap.size ∧ ∀ (i j : Nat) (v : Vl) (u : Value), L[i]? = some v → (vlC v)[j]? = some u → w.cell? ⟨b, o + i * 5 + j, none⟩ = some u
theorem Vls.same {w w' : World} {a : Option Addr} {L : List Vl} (h : Vls w a L) (M : Same w w') : Vls w' a L := by
  intro hp
  obtain ⟨b, o, ha, hb, hc⟩ := h hp
  exact ⟨b, o, ha, Nat.lt_of_lt_of_le hb M.size, fun i j v u h1 h2 => (M.cell hb (fun q => q) _).trans (hc i j v u h1 h2)⟩
def vlL (v : Vl) : List Value := (vlC v).toList
theorem flat5_len (L : List Vl) : (L.flatMap vlL).length = L.length * 5 := by
  induction L with
  | nil => rfl
  | cons x L ih => rw [List.flatMap_cons, List.length_append, ih, List.length_cons]; simp [vlL]; omega
theorem flat5_get : ∀ (L : List Vl) (i j : Nat) (x : Vl), L[i]? = some x → j < 5 → (L.flatMap vlL)[i * 5 + j]? = (vlC x)[j]?
  | [], i, j, x, h, _ => by simp at h
  | y :: L, 0, j, x, h, hj => by
    simp at h
    subst h
    rw [List.flatMap_cons, Nat.zero_mul, Nat.zero_add, List.getElem?_append_left (by simpa [vlL] using hj)]
    simp [vlL]
  | y :: L, i + 1, j, x, h, hj => by
    rw [List.flatMap_cons, List.getElem?_append_right (by simp [vlL]; omega)]
    rw [show (i + 1) * 5 + j - (vlL y).length = i * 5 + j by simp [vlL]; omega]
    exact flat5_get L i j x (by simpa using h) hj
theorem vls_own {w : World} {base : Nat} {ty : TypeId} {v : Value} {L : List Vl} (h : w.ownsRow base ty 5 v L.length (L.flatMap vlL)) : ∃ a c, v = .slice a L.length c ∧ Vls w a L := by
  by_cases hp : 0 < L.length
  · obtain ⟨g, cap, hv, hb, hc, hr⟩ := RowV.of_owns h hp
    refine ⟨some ⟨g, 0, none⟩, cap, hv, fun _ => ⟨g, 0, rfl, hr.lt, fun i j x u h1 h2 => ?_⟩⟩
    have hi : i < L.length := (List.getElem?_eq_some_iff.1 h1).1
    have hj : j < 5 := by
      rcases Nat.lt_or_ge j 5 with q | q
      · exact q
      · rw [Array.getElem?_eq_none (by simpa using q)] at h2; cases h2
    rw [Nat.zero_add]
    refine (hr.cell (i * 5 + j) (by omega)).trans ?_
    rw [List.getD_eq_getElem?_getD, flat5_get L i j x h1 hj, h2]; rfl
  · obtain ⟨a, c, hs⟩ := owns_slice h
    exact ⟨a, c, hs, fun q => absurd q hp⟩
theorem vl_new (w : World) (v : Vl) (t : TypeId) : ∀ j u, (vlL v)[j]? = some u → (w.alloc (.cells (vlC v) t)).cell? (Addr.add ⟨w.heap.size, 0, none⟩ j) = some u := by
  intro j u hu
  have hadd : (⟨w.heap.size, 0, none⟩ : Addr).add j = ⟨w.heap.size, j, none⟩ := by unfold Addr.add; split <;> simp_all
  rw [hadd]
  refine ((Blk.new w _ t).cell j).trans ?_
  unfold vlL at hu
  rwa [Array.getElem?_toList] at hu
theorem vl_cells (v : Vl) : ∀ u ∈ vlL v, u.oneCell' = true := fun u hu => by
  unfold vlL at hu
  simp at hu
  rcases hu with rfl | rfl | rfl | rfl | rfl <;> rfl
end Go.Proofs.YtjkndfenniongaaGreatDoor
set_option maxRecDepth 100000
/- vols.List. -/
namespace Go.Proofs.YtjkndfenniongaaGreatDoor
open Go Go.RowKit
theorem info72 : (Tryz.prog.info? 72).map (fun i => (i.zero, i.size, i.bytes)) = some (some (.agg #[.int .i64 0, .int .i64 0, .int .i64 0, .bool false, .int .i64 0]), 5, 40) := by kernel_rfl
def ListP (S : List (List UInt8)) (root : Int) (B : Nat) (e : Ending) (w' : World) : Prop := match treeVols S root with
  | none => e = .returned (.tuple #[.slice none 0 0, .int .i64 3])
  | some V => ∃ a c, e = .returned (.tuple #[.slice a V.length c, .int .i64 0]) ∧ Vls w' a V ∧ V.length ≤ 7665 ∧ ∀ b o, a = some ⟨b, o, none⟩ → B ≤ b
theorem keep_u64 {S : List (List UInt8)} {root : Int} {st : WSt} (h : walkW S root = some st) (lo hi : Int) : ∀ x ∈ keepL lo hi st.2, U64 x.1 ∧ U64 x.2 := fun x hx => walk_pairs h x (List.mem_filter.1 hx).1
set_option maxHeartbeats 8000000 in
theorem list_any {B0 B2 : Nat} {w : World} {s d kb fb m lb : Nat} {h : Hd} {at_ u : Int} {S : List (List UInt8)} (T : Sto B0 w s d kb fb h at_) (HD : Dev B2 w d m lb u S (.map [])) (hS : ∀ s ∈ S, s.length = 16) (root : Int) (hr : I64 root) :
    Calls Tryz.prog 36 #[.iface 42 (bp s), .int .i64 root] w fun e w' => ListP S root w.heap.size e w' ∧ Same w w' := by
  refine opq fun R HR => ?_
  have HRg := Lib.hid (range_any T HD hS root hr 4294967296 (4294967296 + 4294967295))
  clear T HD
  unfold ListP treeVols at HR
  unfold RangeP at HRg
  go_enter Tryz.func36, Tryz.ntmps36
  go_wp2_with fail
  refine (key_any 0 (by omega) w).mono ?_
  rintro e w1 ⟨rfl, rfl⟩
  go_wp2_with fail
  refine (key_any 4294967295 (by omega) w1).mono ?_
  rintro e w2 ⟨rfl, rfl⟩
  go_wp2_with fail
  refine HRg.out.mono ?_
  rintro e w3 ⟨hrg, M⟩
  have M3 := Lib.hid M
  clear M HRg
  cases hw : walkW S root with
  | none =>
    rw [hw] at HR hrg
    dsimp only at hrg
    subst hrg
    dsimp only [Option.bind] at HR
    go_wp2
    exact HR.out _ _ ⟨rfl, M3.out⟩
  | some st =>
    rw [hw] at HR hrg
    have hku := keep_u64 hw loK hiK
    dsimp only at hrg
    dsimp only [Option.bind] at HR
    rw [show (4294967296 : Int) = loK from rfl, show loK + 4294967295 = hiK by decide] at hrg
    obtain ⟨a, c, rfl, hP, hln⟩ := hrg
    have hkl : (keepL loK hiK st.2).length ≤ 7665 := Nat.le_trans (List.length_filter_le _ _) hln
    generalize keepL loK hiK st.2 = K at *
    have HP := Lib.hid hP
    have HU := Lib.hid hku
    obtain ⟨n, hn⟩ : ∃ n, K.length = n := ⟨_, rfl⟩
    have HN := Lib.hid hn
    rw [hn] at hkl ⊢
    obtain ⟨i0, hi, hz0, hz1, hz2⟩ := info_parts info72
    have I0 := Lib.hid hi
    have Z0 := Lib.hid hz0
    have Z1 := Lib.hid hz1
    have Z2 := Lib.hid hz2
    clear hP hku hln hw hi hz0 hz1 hz2 hn
    go_wp2_with fail
    go_loopw [26, 8] (fun vi vo wr => ∃ (j : Nat) (A : List Vl), j ≤ n ∧ vi = .int .i64 (j : Int) ∧ A.length = j ∧ wr.ownsRow w3.heap.size 72 5 vo j (A.flatMap vlL) ∧ volsL K = (volsL (K.drop j)).map (A ++ ·) ∧ Same w3 wr) (fun vi _ _ => n - (intOf vi).toNat)
    case atStart => exact ⟨0, [], by omega, rfl, rfl, World.ownsRow_nil _ _ _ _, by simp, Mod.refl _ _⟩
    case round =>
      obtain ⟨j, A, hj, rfl, hA, hown, hv, M⟩ := hrel
      have J := Lib.hid M
      have OW := Lib.hid hown
      have HV := Lib.hid hv
      have HA := Lib.hid hA
      clear M hown hv hA
      by_cases hlt : j < n
      · obtain ⟨b, o, rfl, hb, hc⟩ := HP.out (by rw [HN.out]; omega)
        obtain ⟨x, hx⟩ : ∃ x, K[j]? = some x := ⟨_, List.getElem?_eq_getElem (by rw [HN.out]; omega)⟩
        have hdx : K.drop j = x :: K.drop (j + 1) := by
          have := List.drop_eq_getElem_cons (l := K) (i := j) (by rw [HN.out]; exact hlt)
          rw [this]
          congr 1
          exact (List.getElem?_eq_some_iff.1 hx).2
        have e0 := (J.out.cell hb (fun q => q) _).trans (hc j x hx).1
        have e1 := (J.out.cell hb (fun q => q) _).trans (hc j x hx).2
        have hux := HU.out x (List.mem_of_getElem? hx)
        have HVr := Lib.hid (fun w => vread_any x hux.1 hux.2 w)
        have HDx := Lib.hid hdx
        have J1 := Lib.hid (show Same w3 (wr.alloc (.cells #[.int .u64 x.1, .int .u64 x.2] 123)) from J.out.alloc _)
        clear hc hx hdx hux
        go_wp2_with fail
        generalize hW1 : wr.alloc _ = W1 at *
        refine (HVr.out W1).mono ?_
        rintro e w5 ⟨rfl, M⟩
        have J5 := Lib.hid (J1.out.same M)
        have O5 := Lib.hid (own_mod2 (OW.out.alloc (.cells #[.int .u64 x.1, .int .u64 x.2] 123)) (by rw [hW1]; exact M) (fun _ _ q => q))
        clear M hW1 J1 e0 e1 HVr
        cases hrd : readV x with
        | none =>
          have hres : volsL K = none := by rw [HV.out, HDx.out, volsL, hrd]; rfl
          rw [hres] at HR
          dsimp only
          go_wp2_with fail
          exact HR.out _ _ ⟨rfl, M3.out.same (J5.out.alloc _)⟩
        | some v =>
          have hres : volsL K = (volsL (K.drop (j + 1))).map ((A ++ [v]) ++ ·) := by
            rw [HV.out, HDx.out, volsL, hrd]
            cases volsL (K.drop (j + 1)) <;> simp
          have HRs := Lib.hid hres
          clear hres hrd HV HDx
          dsimp only [vlV]
          have J6 := Lib.hid (J5.out.alloc (.cells (vlC v) 72))
          have O6 := Lib.hid (O5.out.alloc (.cells (vlC v) 72))
          have X6 := Lib.hid (Blk.new w5 (vlC v) 72)
          have x0 := X6.out.at_ (i := 0) _ rfl
          have x1 := X6.out.at_ (i := 1) _ rfl
          have x2 := X6.out.at_ (i := 2) _ rfl
          have x3 := X6.out.at_ (i := 3) _ rfl
          have x4 := X6.out.at_ (i := 4) _ rfl
          have hsz : w3.heap.size ≤ w5.heap.size := J5.out.size
          generalize hAL : A.flatMap vlL = AL at *
          go_wp2_with (at_builtin; refine wpList_append_lies _ rfl (.tmp 37) (.tmp 39) 65 rfl w3.heap.size 72 i0 (.agg #[.int .i64 0, .int .i64 0, .int .i64 0, .bool false, .int .i64 0]) 5 40 Tryz.underlying65 I0.out Z0.out Z1.out Z2.out rfl (by decide) _ j _ rfl (O6.out.alloc _) ⟨w5.heap.size + 1, 0, none⟩ 1 1 (vlL v) rfl rfl (by have := vl_new (w5.alloc (.cells (vlC v) 72)) v 72; rw [World.size_alloc] at this; exact this) (vl_cells v) (by decide) (by unfold maxLen; omega) (by omega) (by simp only [World.size_alloc]; omega) _ rfl ?_; intro g cap w6 hown6 hgrow hgb hglt; have P6 := Lib.hid (same_app4 (J6.out.alloc _) (O6.out.alloc _) hgrow); have Q6 := Lib.hid hown6; clear hown6 hgrow hgb hglt x0 x1 x2 x3 x4)
          go_roundw
          case rel => exact ⟨j + 1, A ++ [v], by omega, by go_num, by rw [List.length_append, HA.out]; rfl, by rw [List.flatMap_append, hAL]; simpa using Q6.out, HRs.out, P6.out⟩
          case measure => simp [intOf]; omega
      · obtain rfl : j = n := by omega
        have hres : volsL K = some A := by rw [HV.out, List.drop_of_length_le (by rw [HN.out]; omega), volsL]; simp
        rw [hres] at HR
        have hvo := OW.out
        rw [← HA.out] at hvo
        obtain ⟨a', c', rfl, hVl⟩ := vls_own hvo
        have VL := Lib.hid hVl
        have HFr := Lib.hid (fun (b o : Nat) (q : a' = some ⟨b, o, none⟩) => Nat.le_trans M3.out.size (hvo.lt b (by rw [q]; rfl)).1)
        clear hvo hVl hres
        dsimp only at HR
        go_wp2_with fail
        exact HR.out _ _ ⟨⟨a', c', rfl, VL.out, by rw [HA.out]; exact hkl, HFr.out⟩, M3.out.same J.out⟩
end Go.Proofs.YtjkndfenniongaaGreatDoor
set_option maxRecDepth 100000
/- Pages with their volumes; a page is mapped. -/
namespace Go.Proofs.YtjkndfenniongaaGreatDoor
open Go Go.RowKit
/-- A page: its kind, its level, how many pairs, its volumes. -/
structure Pd where
  k : Int
  l : Int
  p : Int
  vs : List Int
/-- Pages in block g, each with a row of volumes of its own; F: the blocks that the caller keeps. -/
structure Pgm (B : Nat) (F : Nat → Prop) (w : World) (g : Nat) (V : Nat → Value) (L : List Pd) : Prop where
  lt : g < w.heap.size
  c0 : ∀ i x, L[i]? = some x → w.cell? ⟨g, i * 4, none⟩ = some (.int .i32 x.k)
  c1 : ∀ i x, L[i]? = some x → w.cell? ⟨g, i * 4 + 1, none⟩ = some (.int .i64 x.l)
  c2 : ∀ i x, L[i]? = some x → w.cell? ⟨g, i * 4 + 2, none⟩ = some (.int .i64 x.p)
  c3 : ∀ i x, L[i]? = some x → w.cell? ⟨g, i * 4 + 3, none⟩ = some (V i)
  free : ∀ j, w.frozen? ⟨g, j, none⟩ = false
  own : ∀ i x, L[i]? = some x → w.ownsRow B 3 1 (V i) x.vs.length (x.vs.map fun x => .int .i64 x)
  fg : ¬ F g
  fb : ∀ i, F i → i < w.heap.size
  vf : ∀ i b, i < L.length → (V i).ownBlock = some b → b ≠ g ∧ ¬ F b
  ap : ∀ i j b, i < L.length → j < L.length → i ≠ j → (V i).ownBlock = some b → (V j).ownBlock ≠ some b
section
variable {B : Nat} {F : Nat → Prop} {w w' : World} {g : Nat} {V : Nat → Value} {L : List Pd}
theorem Pgm.same (h : Pgm B F w g V L) (M : Same w w') : Pgm B F w' g V L :=
  ⟨Nat.lt_of_lt_of_le h.lt M.size, fun i x q => (M.cell h.lt (fun q => q) _).trans (h.c0 i x q), fun i x q => (M.cell h.lt (fun q => q) _).trans (h.c1 i x q), fun i x q => (M.cell h.lt (fun q => q) _).trans (h.c2 i x q), fun i x q => (M.cell h.lt (fun q => q) _).trans (h.c3 i x q),
    fun j => (M.frozen h.lt (fun q => q) j).trans (h.free j), fun i x q => own_mod2 (h.own i x q) M (fun _ _ q => q), h.fg, fun i q => Nat.lt_of_lt_of_le (h.fb i q) M.size, h.vf, h.ap⟩
theorem Pgm.lt_own (h : Pgm B F w g V L) {i b : Nat} (hi : i < L.length) (hb : (V i).ownBlock = some b) : B ≤ b ∧ b < w.heap.size :=
  (h.own i _ (List.getElem?_eq_getElem hi)).lt b hb
theorem Pgm.more (h : Pgm B F w g V L) (M : Same w w') : Pgm B (fun i => F i ∨ (w.heap.size ≤ i ∧ i < w'.heap.size)) w' g V L := by
  have h' := h.same M
  exact ⟨h'.lt, h'.c0, h'.c1, h'.c2, h'.c3, h'.free, h'.own, fun q => q.elim h.fg (fun q => by have := h.lt; omega), fun i q => q.elim (h'.fb i) (fun q => q.2),
    fun i b hi hb => ⟨(h.vf i b hi hb).1, fun r => r.elim (h.vf i b hi hb).2 (fun r => by have := (h.lt_own hi hb).2; omega)⟩, h.ap⟩
theorem Pgm.less {F' : Nat → Prop} (h : Pgm B F w g V L) (c : ∀ i, F' i → F i) : Pgm B F' w g V L :=
  ⟨h.lt, h.c0, h.c1, h.c2, h.c3, h.free, h.own, fun q => h.fg (c _ q), fun i q => h.fb i (c i q), fun i b hi hb => ⟨(h.vf i b hi hb).1, fun r => (h.vf i b hi hb).2 (c b r)⟩, h.ap⟩
/-- What turns one page's cells alone (and the row of its volumes). -/
theorem Pgm.turn (h : Pgm B F w g V L) {i : Nat} {x y : Pd} (hx : L[i]? = some x) {S : Nat → Prop} (M : Mod S w w') (hS : ∀ b, S b → b = g ∨ (V i).ownBlock = some b) {v' : Value}
    (hfar : ∀ j, j / 4 ≠ i → w'.cell? ⟨g, j, none⟩ = w.cell? ⟨g, j, none⟩) (hfree : ∀ j, w'.frozen? ⟨g, j, none⟩ = false)
    (d0 : w'.cell? ⟨g, i * 4, none⟩ = some (.int .i32 y.k)) (d1 : w'.cell? ⟨g, i * 4 + 1, none⟩ = some (.int .i64 y.l)) (d2 : w'.cell? ⟨g, i * 4 + 2, none⟩ = some (.int .i64 y.p)) (d3 : w'.cell? ⟨g, i * 4 + 3, none⟩ = some v')
    (hown : w'.ownsRow B 3 1 v' y.vs.length (y.vs.map fun x => .int .i64 x)) (hv : ∀ b, v'.ownBlock = some b → (V i).ownBlock = some b ∨ w.heap.size ≤ b) :
    Pgm B F w' g (upd V i v') (L.set i y) ∧ Mod (fun b => ¬ F b) w w' := by
  have hil : i < L.length := (List.getElem?_eq_some_iff.1 hx).1
  have hget : ∀ j z, (L.set i y)[j]? = some z → (j = i ∧ z = y) ∨ (j ≠ i ∧ L[j]? = some z) := fun j z hz => by
    by_cases q : j = i
    · subst q
      rw [List.getElem?_set_self hil] at hz
      exact .inl ⟨rfl, (Option.some.inj hz).symm⟩
    · rw [List.getElem?_set_ne (fun e => q e.symm)] at hz
      exact .inr ⟨q, hz⟩
  have hvF : ∀ b, v'.ownBlock = some b → b ≠ g ∧ ¬ F b := fun b hb => by
    rcases hv b hb with q | q
    · exact h.vf i b hil q
    · exact ⟨by have := h.lt; omega, fun r => by have := h.fb b r; omega⟩
  refine ⟨⟨Nat.lt_of_lt_of_le h.lt M.size, ?_, ?_, ?_, ?_, hfree, ?_, h.fg, fun i q => Nat.lt_of_lt_of_le (h.fb i q) M.size, ?_, ?_⟩, M.mono (fun b _ q => (hS b q).elim (fun e => by rw [e]; exact h.fg) (fun e => (h.vf i b hil e).2))⟩
  · intro j z hz
    rcases hget j z hz with ⟨rfl, rfl⟩ | ⟨q, hz⟩
    · exact d0
    · rw [hfar _ (by omega)]; exact h.c0 j z hz
  · intro j z hz
    rcases hget j z hz with ⟨rfl, rfl⟩ | ⟨q, hz⟩
    · exact d1
    · rw [hfar _ (by omega)]; exact h.c1 j z hz
  · intro j z hz
    rcases hget j z hz with ⟨rfl, rfl⟩ | ⟨q, hz⟩
    · exact d2
    · rw [hfar _ (by omega)]; exact h.c2 j z hz
  · intro j z hz
    unfold upd
    rcases hget j z hz with ⟨rfl, rfl⟩ | ⟨q, hz⟩
    · rw [if_pos rfl]; exact d3
    · rw [hfar _ (by omega), if_neg q]; exact h.c3 j z hz
  · intro j z hz
    unfold upd
    rcases hget j z hz with ⟨rfl, rfl⟩ | ⟨q, hz⟩
    · rw [if_pos rfl]; exact hown
    · rw [if_neg q]
      have hj : j < L.length := (List.getElem?_eq_some_iff.1 hz).1
      exact own_mod2 (h.own j z hz) M (fun b hb r => (hS b r).elim (fun e => (h.vf j b hj hb).1 e) (fun e => h.ap i j b hil hj (fun e => q e.symm) e hb))
  · intro j b hj hb
    rw [List.length_set] at hj
    unfold upd at hb
    by_cases q : j = i
    · rw [if_pos q] at hb; exact hvF b hb
    · rw [if_neg q] at hb; exact h.vf j b hj hb
  · intro j j' b hj hj' hne hb
    rw [List.length_set] at hj hj'
    unfold upd at hb ⊢
    by_cases q : j = i
    · rw [if_pos q] at hb
      rw [if_neg (by omega)]
      rcases hv b hb with r | r
      · exact h.ap i j' b hil hj' (by omega) r
      · exact fun e => by have := (h.lt_own hj' e).2; omega
    · rw [if_neg q] at hb
      by_cases q' : j' = i
      · rw [if_pos q']
        intro e
        rcases hv b e with r | r
        · exact h.ap i j b hil hj (by omega) r hb
        · have := (h.lt_own hj hb).2; omega
      · rw [if_neg q']; exact h.ap j j' b hj hj' hne hb
end
/-- A page's kind is set. -/
theorem kind_set {w : World} {g o : Nat} {a0 a1 a2 a3 : Value} (q0 : w.cell? ⟨g, o, none⟩ = some a0) (q1 : w.cell? ⟨g, o + 1, none⟩ = some a1) (q2 : w.cell? ⟨g, o + 2, none⟩ = some a2) (q3 : w.cell? ⟨g, o + 3, none⟩ = some a3) (v : Value) :
    (w.setCell ⟨g, o, none⟩ v).cell? ⟨g, o, none⟩ = some v ∧ (w.setCell ⟨g, o, none⟩ v).cell? ⟨g, o + 1, none⟩ = some a1 ∧ (w.setCell ⟨g, o, none⟩ v).cell? ⟨g, o + 2, none⟩ = some a2 ∧ (w.setCell ⟨g, o, none⟩ v).cell? ⟨g, o + 3, none⟩ = some a3 ∧ (∀ j, j ≠ o → (w.setCell ⟨g, o, none⟩ v).cell? ⟨g, j, none⟩ = w.cell? ⟨g, j, none⟩) ∧ Mod (fun b => b = g) w (w.setCell ⟨g, o, none⟩ v) := by
  have hf : ∀ j, j ≠ o → (w.setCell ⟨g, o, none⟩ v).cell? ⟨g, j, none⟩ = w.cell? ⟨g, j, none⟩ := fun j hj => World.cell?_setCell_other _ _ _ _ (fun e => by injection e; omega)
  exact ⟨World.cell?_setCell_same _ _ _ q0, (hf _ (by omega)).trans q1, (hf _ (by omega)).trans q2, (hf _ (by omega)).trans q3, hf, (Mod.refl (fun b => b = g) w).setCell (p := ⟨g, o, none⟩) (fun _ => rfl) v⟩
theorem vols_set {w : World} {g o : Nat} {a0 a1 a2 a3 : Value} (q0 : w.cell? ⟨g, o, none⟩ = some a0) (q1 : w.cell? ⟨g, o + 1, none⟩ = some a1) (q2 : w.cell? ⟨g, o + 2, none⟩ = some a2) (q3 : w.cell? ⟨g, o + 3, none⟩ = some a3) (v : Value) :
    (w.setCell ⟨g, o + 3, none⟩ v).cell? ⟨g, o, none⟩ = some a0 ∧ (w.setCell ⟨g, o + 3, none⟩ v).cell? ⟨g, o + 1, none⟩ = some a1 ∧ (w.setCell ⟨g, o + 3, none⟩ v).cell? ⟨g, o + 2, none⟩ = some a2 ∧ (w.setCell ⟨g, o + 3, none⟩ v).cell? ⟨g, o + 3, none⟩ = some v ∧ (∀ j, j ≠ o + 3 → (w.setCell ⟨g, o + 3, none⟩ v).cell? ⟨g, j, none⟩ = w.cell? ⟨g, j, none⟩) ∧ Mod (fun b => b = g) w (w.setCell ⟨g, o + 3, none⟩ v) := by
  have hf : ∀ j, j ≠ o + 3 → (w.setCell ⟨g, o + 3, none⟩ v).cell? ⟨g, j, none⟩ = w.cell? ⟨g, j, none⟩ := fun j hj => World.cell?_setCell_other _ _ _ _ (fun e => by injection e; omega)
  exact ⟨(hf _ (by omega)).trans q0, (hf _ (by omega)).trans q1, (hf _ (by omega)).trans q2, World.cell?_setCell_same _ _ _ q3, hf, (Mod.refl (fun b => b = g) w).setCell (p := ⟨g, o + 3, none⟩) (fun _ => rfl) v⟩
/-- A volume needs it. -/
def mapP (id : Int) (x : Pd) : Pd := { x with vs := x.vs ++ [id], k := if x.vs.length + 1 ≥ 2 then 83 else 77 }
theorem map_fin {B : Nat} {F : Nat → Prop} {w w1 W : World} {g : Nat} {V : Nat → Value} {L : List Pd} (P : Pgm B F w g V L) {i : Nat} {x : Pd} (hx : L[i]? = some x) {id : Int} {vv : Value} (hv : V i = vv) (M1 : Mod (fun b => vv.ownBlock = some b) w w1) {gg cap n : Nat} (hn : x.vs.length = n)
    (hown : w1.ownsRow B 3 1 (.slice (some ⟨gg, 0, none⟩) (n + 1) cap) (n + 1) ((x.vs.map fun x => .int .i64 x) ++ [.int .i64 id])) (GB : vv.ownBlock = some gg ∨ w.heap.size ≤ gg) (MW : Mod (fun b => b = g) w1 W) {kk : Int} (hk : kk = if x.vs.length + 1 ≥ 2 then 83 else 77)
    (hfar : ∀ j, j / 4 ≠ i → W.cell? ⟨g, j, none⟩ = w1.cell? ⟨g, j, none⟩) (d0 : W.cell? ⟨g, i * 4, none⟩ = some (.int .i32 kk)) (d1 : W.cell? ⟨g, i * 4 + 1, none⟩ = some (.int .i64 x.l)) (d2 : W.cell? ⟨g, i * 4 + 2, none⟩ = some (.int .i64 x.p)) (d3 : W.cell? ⟨g, i * 4 + 3, none⟩ = some (.slice (some ⟨gg, 0, none⟩) (n + 1) cap))
    (hfree : ∀ j, W.frozen? ⟨g, j, none⟩ = w1.frozen? ⟨g, j, none⟩) :
    (∃ V', Pgm B F W g V' (L.set i (mapP id x))) ∧ Mod (fun b => ¬ F b) w W := by
  have hil : i < L.length := (List.getElem?_eq_some_iff.1 hx).1
  have hvg : vv.ownBlock ≠ some g := fun e => (P.vf i g hil (by rw [hv]; exact e)).1 rfl
  have hgg : gg ≠ g := by
    rcases GB with q | q
    · exact fun e => hvg (by rw [q, e])
    · have := P.lt; omega
  subst hk
  have R := P.turn (y := mapP id x) hx (S := fun b => b = g ∨ vv.ownBlock = some b) ((M1.mono (fun _ _ q => .inr q)).then_ MW (fun _ _ q => .inl q)) (fun b q => by rw [hv]; exact q)
    (fun j hj => (hfar j hj).trans (M1.cell P.lt hvg _)) (fun j => (hfree j).trans ((M1.frozen P.lt hvg j).trans (P.free j))) d0 d1 d2 d3 (by
      unfold mapP
      dsimp only
      rw [List.length_append, List.map_append, hn]
      exact own_mod2 hown MW (fun b hb q => by simp [Value.ownBlock] at hb; omega)) (fun b hb => by simp [Value.ownBlock] at hb; subst hb; rw [hv]; exact GB)
  exact ⟨⟨_, R.1⟩, R.2⟩
set_option maxHeartbeats 4000000 in
theorem mapped_any {B : Nat} {F : Nat → Prop} {w : World} {g : Nat} {V : Nat → Value} {L : List Pd} (P : Pgm B F w g V L) (hB : B ≤ w.heap.size) (i : Nat) (x : Pd) (hx : L[i]? = some x) (id : Int) (hl : x.vs.length ≤ 100000000) :
    Calls Tryz.prog 37 #[.pointer (some ⟨g, i * 4, none⟩), .int .i64 id] w fun e w' => e = .returned (.tuple #[]) ∧ (∃ V', Pgm B F w' g V' (L.set i (mapP id x))) ∧ Mod (fun b => ¬ F b) w w' := by
  refine opq fun R HR => ?_
  have PP := Lib.hid P
  have HX := Lib.hid hx
  have e3 := P.c3 i x hx
  have hglt := P.lt
  obtain ⟨i3, hi3, hz30, hz31, hz32⟩ := info_parts info3
  have I3 := Lib.hid hi3
  have Z30 := Lib.hid hz30
  have Z31 := Lib.hid hz31
  have Z32 := Lib.hid hz32
  have hil : i < L.length := (List.getElem?_eq_some_iff.1 hx).1
  obtain ⟨va, vc, hva, -⟩ := ins_own (P.own i x hx)
  have OW := Lib.hid (P.own i x hx)
  have hvg : (V i).ownBlock ≠ some g := fun e => (P.vf i g hil e).1 rfl
  obtain ⟨n, hn⟩ : ∃ n, x.vs.length = n := ⟨_, rfl⟩
  have HNn := Lib.hid hn
  rw [hn] at hl hva OW
  have HVV := Lib.hid hva
  rw [hva] at e3 hvg OW
  clear P hx hi3 hz30 hz31 hz32 hva hn
  have e0 := PP.out.c0 i x HX.out
  have e1 := PP.out.c1 i x HX.out
  have e2 := PP.out.c2 i x HX.out
  by_cases h2 : 2 ≤ n + 1
  · go_enter Tryz.func37, Tryz.ntmps37
    go_wp2_with (at_builtin; refine wpList_append_lies _ rfl (.tmp 8) (.tmp 10) 32 rfl B 3 i3 (.int .i64 0) 1 8 Tryz.underlying32 I3.out Z30.out Z31.out Z32.out rfl (by decide) _ n _ rfl (OW.out.alloc (.cells #[.int .i64 id] 3)) ⟨w.heap.size, 0, none⟩ 1 1 [.int .i64 id] rfl rfl (one_i64 w id 3) (i64_cell id) (by decide) (by unfold maxLen; omega) (by omega) (by simp only [World.size_alloc]; omega) _ rfl ?_; intro gg cap w1 hown1 hgrow hgb hglt1; have M1 := Lib.hid (show Mod (fun b => (Value.slice va n vc).ownBlock = some b) w w1 from ((Mod.refl (fun b => (Value.slice va n vc).ownBlock = some b) w).alloc _).grown hgrow (fun k hk _ => hk)); have OO := Lib.hid hown1; have GB := Lib.hid (show (Value.slice va n vc).ownBlock = some gg ∨ w.heap.size ≤ gg from hgb.imp (fun q => q) (fun q => by rw [q]; simp)); have q0 := (M1.out.cell hglt hvg _).trans e0; have q1 := (M1.out.cell hglt hvg _).trans e1; have q2 := (M1.out.cell hglt hvg _).trans e2; have q3 := (M1.out.cell hglt hvg _).trans e3; have z0 := (M1.out.frozen hglt hvg (i * 4)).trans (PP.out.free _); have z3 := (M1.out.frozen hglt hvg (i * 4 + 3)).trans (PP.out.free _); have Q := Lib.hid (And.intro q0 (And.intro q1 (And.intro q2 q3))); clear hown1 hgrow hgb hglt1)
    go_end0
    obtain ⟨q0, q1, q2, q3⟩ := Q.out
    obtain ⟨a0, a1, a2, a3, af, am⟩ := vols_set q0 q1 q2 q3 (.slice (some ⟨gg, 0, none⟩) (n + 1) cap)
    obtain ⟨b0, b1, b2, b3, bf, bm⟩ := kind_set a0 a1 a2 a3 (.int .i32 77)
    obtain ⟨c0, c1, c2, c3, cf, cm⟩ := kind_set b0 b1 b2 b3 (.int .i32 83)
    exact HR.out _ _ ⟨rfl, map_fin PP.out HX.out HVV.out M1.out HNn.out OO.out GB.out ((am.trans bm).trans cm) (by rw [HNn.out, if_pos h2]) (fun j hj => (cf j (by omega)).trans ((bf j (by omega)).trans (af j (by omega)))) c0 c1 c2 c3 (fun j => by rw [frozen_setCell, frozen_setCell, frozen_setCell])⟩
  · go_enter Tryz.func37, Tryz.ntmps37
    go_wp2_with (at_builtin; refine wpList_append_lies _ rfl (.tmp 8) (.tmp 10) 32 rfl B 3 i3 (.int .i64 0) 1 8 Tryz.underlying32 I3.out Z30.out Z31.out Z32.out rfl (by decide) _ n _ rfl (OW.out.alloc (.cells #[.int .i64 id] 3)) ⟨w.heap.size, 0, none⟩ 1 1 [.int .i64 id] rfl rfl (one_i64 w id 3) (i64_cell id) (by decide) (by unfold maxLen; omega) (by omega) (by simp only [World.size_alloc]; omega) _ rfl ?_; intro gg cap w1 hown1 hgrow hgb hglt1; have M1 := Lib.hid (show Mod (fun b => (Value.slice va n vc).ownBlock = some b) w w1 from ((Mod.refl (fun b => (Value.slice va n vc).ownBlock = some b) w).alloc _).grown hgrow (fun k hk _ => hk)); have OO := Lib.hid hown1; have GB := Lib.hid (show (Value.slice va n vc).ownBlock = some gg ∨ w.heap.size ≤ gg from hgb.imp (fun q => q) (fun q => by rw [q]; simp)); have q0 := (M1.out.cell hglt hvg _).trans e0; have q1 := (M1.out.cell hglt hvg _).trans e1; have q2 := (M1.out.cell hglt hvg _).trans e2; have q3 := (M1.out.cell hglt hvg _).trans e3; have z0 := (M1.out.frozen hglt hvg (i * 4)).trans (PP.out.free _); have z3 := (M1.out.frozen hglt hvg (i * 4 + 3)).trans (PP.out.free _); have Q := Lib.hid (And.intro q0 (And.intro q1 (And.intro q2 q3))); clear hown1 hgrow hgb hglt1)
    go_end0
    obtain ⟨q0, q1, q2, q3⟩ := Q.out
    obtain ⟨a0, a1, a2, a3, af, am⟩ := vols_set q0 q1 q2 q3 (.slice (some ⟨gg, 0, none⟩) (n + 1) cap)
    obtain ⟨b0, b1, b2, b3, bf, bm⟩ := kind_set a0 a1 a2 a3 (.int .i32 77)
    exact HR.out _ _ ⟨rfl, map_fin PP.out HX.out HVV.out M1.out HNn.out OO.out GB.out (am.trans bm) (by rw [HNn.out, if_neg h2]) (fun j hj => (bf j (by omega)).trans (af j (by omega))) b0 b1 b2 b3 (fun j => by rw [frozen_setCell, frozen_setCell])⟩
end Go.Proofs.YtjkndfenniongaaGreatDoor
set_option maxRecDepth 100000
/- The pages of all volumes' maps. -/
namespace Go.Proofs.YtjkndfenniongaaGreatDoor
open Go Go.RowKit
def mapIds (id : Int) : List Int → List Pd → List Pd
  | [], L => L
  | p :: r, L => mapIds id r (match L[p.toNat]? with | some x => L.set p.toNat (mapP id x) | none => L)
def mapsW (S : List (List UInt8)) : List Vl → List Pd → Option (List Pd)
  | [], L => some L
  | v :: r, L => match walkW S v.root with
    | none => none
    | some st => mapsW S r (mapIds v.id st.1 L)
def mapsAll (S : List (List UInt8)) (root : Int) (L : List Pd) : Option (List Pd) := (treeVols S root).bind fun vs => mapsW S vs L
theorem volsL_good : ∀ {K : List (Int × Int)} {V : List Vl}, volsL K = some V → (∀ v ∈ V, goodV v = true) ∧ V.length = K.length
  | [], V, h => by simp only [volsL] at h; cases h; simp
  | x :: r, V, h => by
    simp only [volsL] at h
    cases hx : readV x with
    | none => rw [hx] at h; cases h
    | some v =>
      rw [hx] at h
      cases hr : volsL r with
      | none => rw [hr] at h; cases h
      | some V' =>
        rw [hr] at h
        cases h
        have ih := volsL_good hr
        refine ⟨fun y hy => ?_, by simp [ih.2]⟩
        rcases List.mem_cons.1 hy with e | e
        · subst e
          unfold readV at hx
          split at hx
          · rename_i q
            cases hx
            exact q.1
          · cases hx
        · exact ih.1 y e
theorem treeVols_good {S : List (List UInt8)} {root : Int} {V : List Vl} (h : treeVols S root = some V) : ∀ v ∈ V, goodV v = true := by
  unfold treeVols at h
  cases hw : walkW S root with
  | none => rw [hw] at h; cases h
  | some st => rw [hw] at h; exact (volsL_good h).1
theorem vls_cells {w : World} {b o : Nat} {L : List Vl} (h : ∀ (i j : Nat) (v : Vl) (u : Value), L[i]? = some v → (vlC v)[j]? = some u → w.cell? ⟨b, o + i * 5 + j, none⟩ = some u) {i : Nat} {v : Vl} (hv : L[i]? = some v) :
    w.cell? ⟨b, o + i * 5, none⟩ = some (.int .i64 v.id) ∧ w.cell? ⟨b, o + i * 5 + 1, none⟩ = some (.int .i64 v.sz) ∧ w.cell? ⟨b, o + i * 5 + 2, none⟩ = some (.int .i64 v.root) ∧ w.cell? ⟨b, o + i * 5 + 3, none⟩ = some (.bool v.pin) ∧ w.cell? ⟨b, o + i * 5 + 4, none⟩ = some (.int .i64 v.fr) :=
  ⟨h i 0 v _ hv rfl, h i 1 v _ hv rfl, h i 2 v _ hv rfl, h i 3 v _ hv rfl, h i 4 v _ hv rfl⟩
def MapsP (B : Nat) (F : Nat → Prop) (g n : Nat) (res : Option (List Pd)) (e : Ending) (w' : World) : Prop := ∃ V' L', Pgm B F w' g V' L' ∧ L'.length = n ∧ match res with
  | none => e = .returned (.int .i64 3)
  | some L2 => e = .returned (.int .i64 0) ∧ L' = L2
set_option maxHeartbeats 16000000 in
theorem maps_any {B0 B2 : Nat} {w0 : World} {s d kb fb m lb : Nat} {h : Hd} {at_ u : Int} {S : List (List UInt8)} (T : Sto B0 w0 s d kb fb h at_) (HD : Dev B2 w0 d m lb u S (.map [])) (hS : ∀ s ∈ S, s.length = 16) (hroot : I64 h.root)
    {F : Nat → Prop} {w : World} {g n c : Nat} {V : Nat → Value} {L : List Pd} (M0 : Same w0 w) (hF : ∀ i, i < w0.heap.size → F i) (P : Pgm w0.heap.size F w g V L) (hn : L.length = n) (hnp : n = min (S.length / 16) 512) (hv0 : ∀ x ∈ L, x.vs.length = 0) :
    Calls Tryz.prog 16 #[bp s, .slice (some ⟨g, 0, none⟩) n c] w fun e w' => MapsP w0.heap.size F g n (mapsAll S h.root L) e w' ∧ Mod (fun b => ¬ F b) w w' := by
  refine opq fun R HR => ?_
  have HH := Lib.hid (shead_any (T.same M0))
  have TT := Lib.hid T
  have DD := Lib.hid HD
  have N0 := Lib.hid M0
  have HFl := Lib.hid hF
  have PP := Lib.hid P
  have HNp := Lib.hid hnp
  have hn5 : n ≤ 512 := by omega
  clear hnp
  obtain ⟨gen, root, s0, s1, ch⟩ := h
  dsimp only at hroot HR
  unfold hdV hdC at HH
  dsimp only at HH
  clear T HD M0 hF P
  go_enter Tryz.func16, Tryz.ntmps16
  go_wp2_with fail
  refine HH.out.mono ?_
  rintro e w1 ⟨rfl, M⟩
  have M1 := Lib.hid M
  clear M HH
  have HL := Lib.hid (list_any (TT.out.same (N0.out.same M1.out)) (DD.out.same (N0.out.same M1.out)) hS root hroot)
  unfold ListP at HL
  unfold mapsAll at HR
  go_wp2_with fail
  refine HL.out.mono ?_
  rintro e w2 ⟨hlp, M⟩
  have M2 := Lib.hid (M1.out.same M)
  clear M HL
  cases htv : treeVols S root with
  | none =>
    rw [htv] at HR hlp
    dsimp only at hlp
    subst hlp
    dsimp only [Option.bind] at HR
    go_wp2_with fail
    exact HR.out _ _ ⟨⟨V, L, PP.out.same M2.out, hn, rfl⟩, M2.out.mono (fun _ _ q => q.elim)⟩
  | some VL =>
    rw [htv] at HR hlp
    have hvg := treeVols_good htv
    dsimp only at hlp
    dsimp only [Option.bind] at HR
    obtain ⟨a, cc, rfl, hVls, hnv2, hfr⟩ := hlp
    have HVl := Lib.hid hVls
    have HFr := Lib.hid hfr
    have HG := Lib.hid hvg
    have P2 := Lib.hid (PP.out.more M2.out)
    obtain ⟨nv, hnv⟩ : ∃ z, VL.length = z := ⟨_, rfl⟩
    have HNV := Lib.hid hnv
    obtain ⟨res, hres⟩ : ∃ z, mapsW S VL L = z := ⟨_, rfl⟩
    have HRes := Lib.hid hres
    have hNS := N0.out.same M2.out
    have NS := Lib.hid hNS
    rw [hnv] at hnv2 ⊢
    rw [hres] at HR
    have HV0 := Lib.hid hv0
    have HNn := Lib.hid hn
    clear hvg hfr hVls hnv hres htv hNS hv0 hn
    go_wp2_with fail
    go_loopw [27] (fun vi wr => ∃ (j : Nat) (V' : Nat → Value) (L' : List Pd), j ≤ nv ∧ vi = .int .i64 (j : Int) ∧ Pgm w0.heap.size (fun i => F i ∨ (w.heap.size ≤ i ∧ i < w2.heap.size)) wr g V' L' ∧ L'.length = n ∧ (∀ x ∈ L', x.vs.length ≤ j * 511) ∧ mapsW S (VL.drop j) L' = res ∧ Mod (fun b => ¬ (F b ∨ (w.heap.size ≤ b ∧ b < w2.heap.size))) w2 wr) (fun vi _ => nv - (intOf vi).toNat)
    case atStart => exact ⟨0, V, L, by omega, rfl, P2.out, HNn.out, fun x hx => by have := HV0.out x hx; omega, HRes.out, Mod.refl _ _⟩
    case round =>
      obtain ⟨j, V', L', hj, rfl, hp, hn', hb', hr', hM⟩ := hrel
      have PR := Lib.hid hp
      have HN' := Lib.hid hn'
      have HB' := Lib.hid hb'
      have HR' := Lib.hid hr'
      have MR := Lib.hid hM
      have hw2r : w2.heap.size ≤ wr.heap.size := hM.size
      have NSr := Lib.hid (NS.out.then_ hM (fun i hi q => q (.inl (HFl.out i hi))) : Same w0 wr)
      clear hp hn' hb' hr' hM
      obtain ⟨wo, hwo⟩ : ∃ wo, wo = wr := ⟨wr, rfl⟩
      subst hwo
      by_cases hlt : j < nv
      · obtain ⟨b, o, rfl, hb, hc⟩ := HVl.out (by rw [HNV.out]; omega)
        have hbw : w.heap.size ≤ b := Nat.le_trans M1.out.size (HFr.out b o rfl)
        obtain ⟨v, hv⟩ : ∃ x, VL[j]? = some x := ⟨_, List.getElem?_eq_getElem (by rw [HNV.out]; exact hlt)⟩
        have hdv : VL.drop j = v :: VL.drop (j + 1) := by
          have := List.drop_eq_getElem_cons (l := VL) (i := j) (by rw [HNV.out]; exact hlt)
          rw [this]
          congr 1
          exact (List.getElem?_eq_some_iff.1 hv).2
        have hbF : ¬ ¬ (F b ∨ (w.heap.size ≤ b ∧ b < w2.heap.size)) := fun q => q (.inr ⟨hbw, hb⟩)
        have hvc := vls_cells (fun i j' v' u' h1 h2 => (MR.out.cell hb hbF _).trans (hc i j' v' u' h1 h2)) hv
        obtain ⟨t0, t1, t2, t3, t4⟩ := hvc
        have hgv := goodV_bounds (HG.out v (List.mem_of_getElem? hv))
        have hrI : I64 v.root := by unfold I64; omega
        have HR2 := HR'.out
        rw [hdv] at HR2
        have HR2' := Lib.hid HR2
        obtain ⟨id, sz, vr, pin, fr⟩ := v
        dsimp only at t0 t1 t2 t3 t4 hrI
        have MA := Lib.hid (show Same wo (wo.alloc (.cells #[.int .i64 id, .int .i64 sz, .int .i64 vr, .bool pin, .int .i64 fr] 72)) from (Mod.refl _ _).alloc _)
        have XA := Lib.hid (Blk.new wo #[.int .i64 id, .int .i64 sz, .int .i64 vr, .bool pin, .int .i64 fr] 72)
        have HRc := Lib.hid (reach_any (TT.out.same (NSr.out.same MA.out)) (DD.out.same (NSr.out.same MA.out)) hS vr hrI)
        unfold ReachP at HRc
        clear hc hv hdv hbF HR2 hgv hrI HR'
        go_wp2_with fail
        generalize wo.alloc _ = w3 at *
        refine HRc.out.mono ?_
        rintro e w4 ⟨hrc, M⟩
        have M4 := Lib.hid (MA.out.same M)
        have X4 := Lib.hid (XA.out.mod M (fun q => q))
        have hw34 : w3.heap.size ≤ w4.heap.size := M.size
        have hw3r := XA.out.lt
        clear M MA XA HRc t0 t1 t2 t3 t4
        cases hwk : walkW S vr with
        | none =>
          rw [hwk] at hrc
          dsimp only at hrc
          subst hrc
          have hrn : res = none := by rw [← HR2'.out, mapsW, hwk]
          rw [hrn] at HR
          have PX := Lib.hid ((PR.out.same M4.out).less (F' := F) (fun i q => .inl q))
          clear hrn
          go_wp2_with fail
          exact HR.out _ _ ⟨⟨V', L', PX.out, HN'.out, rfl⟩, (M2.out.mono (fun _ _ q => q.elim)).then_ (MR.out.same M4.out) (fun i hi q r => q (.inl r))⟩
        | some st =>
          rw [hwk] at hrc
          dsimp only at hrc
          obtain ⟨pa, pc, rfl, hpi, hpl, hpf⟩ := hrc
          have hpg := walk_pages hwk
          have HM2 := Lib.hid (show mapsW S (VL.drop (j + 1)) (mapIds id st.1 L') = res by rw [← HR2'.out, mapsW, hwk])
          clear hwk HR2'
          have P4 := Lib.hid (PR.out.more M4.out)
          have HPi := Lib.hid hpi
          have HPg := Lib.hid hpg
          obtain ⟨np, hnp⟩ : ∃ z, st.1.length = z := ⟨_, rfl⟩
          have HNP := Lib.hid hnp
          rw [hnp] at hpl ⊢
          have B4 := Lib.hid (show ∀ x ∈ L', x.vs.length ≤ j * 511 from HB'.out)
          clear hpi hpg hnp
          go_wp2_with fail
          go_loopw [44] (fun vi wq => ∃ (i : Nat) (V'' : Nat → Value) (L'' : List Pd), i ≤ np ∧ vi = .int .i64 (i : Int) ∧ Pgm w0.heap.size (fun i => (F i ∨ (w.heap.size ≤ i ∧ i < w2.heap.size)) ∨ (wo.heap.size ≤ i ∧ i < w4.heap.size)) wq g V'' L'' ∧ L''.length = n ∧ (∀ x ∈ L'', x.vs.length ≤ j * 511 + i) ∧ mapIds id (st.1.drop i) L'' = mapIds id st.1 L' ∧ Mod (fun i => ¬ ((F i ∨ (w.heap.size ≤ i ∧ i < w2.heap.size)) ∨ (wo.heap.size ≤ i ∧ i < w4.heap.size))) w4 wq) (fun vi _ => np - (intOf vi).toNat)
          case atStart => exact ⟨0, V', L', by omega, rfl, P4.out, HN'.out, fun x hx => B4.out x hx, rfl, Mod.refl _ _⟩
          case round =>
            obtain ⟨i, V'', L'', hi, rfl, hp, hn', hb', hr', hM⟩ := hrel
            have PQ := Lib.hid hp
            have HN2 := Lib.hid hn'
            have HB2 := Lib.hid hb'
            have HR2 := Lib.hid hr'
            have MQ := Lib.hid hM
            have hw4q : w4.heap.size ≤ wr.heap.size := hM.size
            have hw0q : w0.heap.size ≤ wr.heap.size := by have := NS.out.size; omega
            clear hp hn' hb' hr' hM
            by_cases hli : i < np
            · obtain ⟨pb, po, rfl, hpb, hpc⟩ := HPi.out (by rw [HNP.out]; omega)
              have hpw : w3.heap.size ≤ pb := hpf pb po rfl
              obtain ⟨p, hpp⟩ : ∃ x, st.1[i]? = some x := ⟨_, List.getElem?_eq_getElem (by rw [HNP.out]; exact hli)⟩
              have hdp : st.1.drop i = p :: st.1.drop (i + 1) := by
                have := List.drop_eq_getElem_cons (l := st.1) (i := i) (by rw [HNP.out]; exact hli)
                rw [this]
                congr 1
                exact (List.getElem?_eq_some_iff.1 hpp).2
              have hpF : ∀ z, w3.heap.size ≤ z → z < w4.heap.size → ¬ ¬ ((F z ∨ (w.heap.size ≤ z ∧ z < w2.heap.size)) ∨ (wo.heap.size ≤ z ∧ z < w4.heap.size)) := fun z h1 h2 q => q (.inr ⟨by omega, h2⟩)
              have e0 := (MQ.out.cell hpb (hpF pb hpw hpb) _).trans (hpc i p hpp)
              have hpr := (HPg.out p (List.mem_of_getElem? hpp)).1
              rw [← HNp.out] at hpr
              obtain ⟨q, rfl⟩ : ∃ q : Nat, p = (q : Int) := ⟨p.toNat, by omega⟩
              have hq1 : 1 ≤ q ∧ q < n := by omega
              obtain ⟨x, hx⟩ : ∃ x, L''[q]? = some x := ⟨_, List.getElem?_eq_getElem (by rw [HN2.out]; omega)⟩
              have hxl := HB2.out x (List.mem_of_getElem? hx)
              have X5 := X4.out.mod MQ.out (fun r => r (.inr ⟨Nat.le_refl _, by omega⟩))
              have y0 := X5.at_ (i := 0) _ rfl
              have HMp := Lib.hid (mapped_any (PQ.out.same (show Same wr wr.drew from (Mod.refl _ _).drew)) (show w0.heap.size ≤ wr.drew.heap.size from hw0q) q x hx id (by omega))
              have hj7 : j < 7665 := by omega
              have HR3 := Lib.hid (show mapIds id (st.1.drop (i + 1)) (L''.set q (mapP id x)) = mapIds id st.1 L' by
                rw [← HR2.out, hdp, mapIds, Int.toNat_natCast, hx])
              have HB3 := Lib.hid (show ∀ y ∈ L''.set q (mapP id x), y.vs.length ≤ j * 511 + (i + 1) from fun y hy => by
                rcases List.mem_or_eq_of_mem_set hy with r | r
                · have := HB2.out y r; omega
                · subst r
                  unfold mapP
                  dsimp only
                  rw [List.length_append]
                  simp only [List.length_cons, List.length_nil]
                  omega)
              clear hpc hpp hdp hpr hx hxl X5 HB2 HR2 hpF
              go_wp2_with fail
              go_region_law (go_simp; go_at_call 37; refine HMp.out.mono ?_; rintro e w6 ⟨rfl, ⟨V3, hP3⟩, hM3⟩; have P6 := Lib.hid hP3; have M6 := Lib.hid (MQ.out.drew.then_ hM3 (fun _ _ q => q)); clear hP3 hM3 HMp)
              all_goals
                go_wp2_with fail
                go_roundw
                case rel => exact ⟨i + 1, V3, _, by omega, by go_num, P6.out, by rw [List.length_set]; exact HN2.out, HB3.out, HR3.out, M6.out⟩
                case measure => simp [intOf]; omega
            · obtain rfl : i = np := by omega
              have hfin := HR2.out
              rw [List.drop_of_length_le (by rw [HNP.out]; omega), mapIds] at hfin
              subst hfin
              have PX := Lib.hid (PQ.out.less (F' := fun i => F i ∨ (w.heap.size ≤ i ∧ i < w2.heap.size)) (fun i q => .inl q))
              have MX := Lib.hid (MR.out.then_ ((M4.out.mono (fun _ _ q => q.elim)).then_ MQ.out (fun i hi q r => q (.inl r))) (fun _ _ q => q))
              have BX := Lib.hid (show ∀ x ∈ mapIds id st.1 L', x.vs.length ≤ (j + 1) * 511 from fun x hx => by have := HB2.out x hx; omega)
              clear HR2 HB2
              go_wp2_with fail
              go_roundw
              case rel => exact ⟨j + 1, V'', _, by omega, by go_num, PX.out, HN2.out, BX.out, HM2.out, MX.out⟩
              case measure => simp [intOf]; omega
      · obtain rfl : j = nv := by omega
        have hrs := HR'.out
        rw [List.drop_of_length_le (by rw [HNV.out]; omega), mapsW] at hrs
        subst hrs
        have PX := Lib.hid (PR.out.less (F' := F) (fun i q => .inl q))
        go_wp2_with fail
        exact HR.out _ _ ⟨⟨V', L', PX.out, HN'.out, rfl, rfl⟩, (M2.out.mono (fun _ _ q => q.elim)).then_ MR.out (fun i hi q r => q (.inl r))⟩
end Go.Proofs.YtjkndfenniongaaGreatDoor
set_option maxRecDepth 100000
/- Pages are filled. -/
namespace Go.Proofs.YtjkndfenniongaaGreatDoor
open Go Go.RowKit
def fillP (S : List (List UInt8)) (i : Nat) (x : Pd) : Pd := if x.k = 72 ∨ x.k = 46 then x else match leafP (pageS S i) with
  | some (lv, l) => { x with l := lv, p := (l.length : Int) }
  | none => x
def fillAll (S : List (List UInt8)) (L : List Pd) : List Pd := L.mapIdx fun i x => fillP S i x
def KOk (S : List (List UInt8)) (L : List Pd) : Prop := ∀ i x, L[i]? = some x → x.k = 72 ∨ x.k = 46 ∨ (1 ≤ i ∧ ∃ lv l, leafP (pageS S i) = some (lv, l))
theorem fill_set {B : Nat} {F : Nat → Prop} {w : World} {g : Nat} {V : Nat → Value} {L : List Pd} (P : Pgm B F w g V L) {j : Nat} {x : Pd} (hx : L[j]? = some x) (lv nl : Int) :
    (∃ V', Pgm B F (((w.setCell ⟨g, j * 4 + 1, none⟩ (.int .i64 lv)).setCell ⟨g, j * 4 + 2, none⟩ (.int .i64 nl)).drew) g V' (L.set j { x with l := lv, p := nl })) ∧ Mod (fun b => ¬ F b) w (((w.setCell ⟨g, j * 4 + 1, none⟩ (.int .i64 lv)).setCell ⟨g, j * 4 + 2, none⟩ (.int .i64 nl)).drew) := by
  have hil : j < L.length := (List.getElem?_eq_some_iff.1 hx).1
  have M : Mod (fun b => b = g) w ((w.setCell ⟨g, j * 4 + 1, none⟩ (.int .i64 lv)).setCell ⟨g, j * 4 + 2, none⟩ (.int .i64 nl)) := ((Mod.refl (fun b => b = g) w).setCell (p := ⟨g, j * 4 + 1, none⟩) (fun _ => rfl) _).setCell (p := ⟨g, j * 4 + 2, none⟩) (fun _ => rfl) _
  have hfar : ∀ t, t ≠ j * 4 + 1 → t ≠ j * 4 + 2 → ((w.setCell ⟨g, j * 4 + 1, none⟩ (.int .i64 lv)).setCell ⟨g, j * 4 + 2, none⟩ (.int .i64 nl)).cell? ⟨g, t, none⟩ = w.cell? ⟨g, t, none⟩ := fun t h1 h2 => by
    rw [World.cell?_setCell_other _ _ _ _ (fun e => by injection e; omega), World.cell?_setCell_other _ _ _ _ (fun e => by injection e; omega)]
  have c1' : (w.setCell ⟨g, j * 4 + 1, none⟩ (.int .i64 lv)).cell? ⟨g, j * 4 + 2, none⟩ = some (.int .i64 x.p) := by
    rw [World.cell?_setCell_other _ _ _ _ (fun e => by injection e; omega)]; exact P.c2 j x hx
  have R := P.turn (y := { x with l := lv, p := nl }) hx M (fun b q => .inl q) (fun t ht => hfar t (by omega) (by omega)) (fun t => by rw [frozen_setCell, frozen_setCell]; exact P.free t)
    ((hfar _ (by omega) (by omega)).trans (P.c0 j x hx)) (by
      rw [World.cell?_setCell_other _ _ _ _ (fun e => by injection e; omega)]
      exact World.cell?_setCell_same _ _ _ (P.c1 j x hx)) (World.cell?_setCell_same _ _ _ c1') ((hfar _ (by omega) (by omega)).trans (P.c3 j x hx)) (own_mod2 (P.own j x hx) M (fun b hb q => (P.vf j b hil hb).1 q)) (fun b hb => .inl hb)
  exact ⟨⟨_, R.1.same (show Same _ _ from (Mod.refl _ _).drew)⟩, R.2.drew⟩
set_option maxHeartbeats 16000000 in
theorem fill_any {B0 B2 : Nat} {w0 : World} {s d kb fb m lb : Nat} {h : Hd} {at_ u : Int} {S : List (List UInt8)} (T : Sto B0 w0 s d kb fb h at_) (HD : Dev B2 w0 d m lb u S (.map [])) (hS : ∀ s ∈ S, s.length = 16)
    {F : Nat → Prop} {w : World} {g n c : Nat} {V : Nat → Value} {L : List Pd} (M0 : Same w0 w) (hF : ∀ i, i < w0.heap.size → F i) (P : Pgm w0.heap.size F w g V L) (hn : L.length = n) (hnp : n = min (S.length / 16) 512) (hK : KOk S L) :
    Calls Tryz.prog 17 #[bp s, .slice (some ⟨g, 0, none⟩) n c] w fun e w' => e = .returned (.int .i64 0) ∧ (∃ V', Pgm w0.heap.size F w' g V' (fillAll S L)) ∧ Mod (fun b => ¬ F b) w w' := by
  refine opq fun R HR => ?_
  have TT := Lib.hid T
  have DD := Lib.hid HD
  have N0 := Lib.hid M0
  have HFl := Lib.hid hF
  have PP := Lib.hid P
  have HNp := Lib.hid hnp
  have HNn := Lib.hid hn
  have HK := Lib.hid hK
  have hn5 : n ≤ 512 := by omega
  clear T HD M0 hF P hnp hn hK
  go_enter Tryz.func17, Tryz.ntmps17
  go_wp2_with fail
  go_loopw [11, 5, 6] (fun vi _ _ wr => ∃ (j : Nat) (V' : Nat → Value) (L' : List Pd), j ≤ n ∧ vi = .int .i64 (j : Int) ∧ Pgm w0.heap.size F wr g V' L' ∧ L'.length = n ∧ (∀ i, i < j → L'[i]? = (L[i]?).map (fillP S i)) ∧ (∀ i, j ≤ i → L'[i]? = L[i]?) ∧ Mod (fun b => ¬ F b) w wr) (fun vi _ _ _ => n - (intOf vi).toNat)
  case atStart => exact ⟨0, V, L, by omega, rfl, PP.out, HNn.out, fun i h => by omega, fun i _ => rfl, Mod.refl _ _⟩
  case round =>
    obtain ⟨j, V', L', hj, rfl, hp, hn', hlo, hhi, hM⟩ := hrel
    have PR := Lib.hid hp
    have HN' := Lib.hid hn'
    have HLo := Lib.hid hlo
    have HHi := Lib.hid hhi
    have MR := Lib.hid hM
    have NSr := Lib.hid (N0.out.then_ hM (fun i hi q => q (HFl.out i hi)) : Same w0 wr)
    clear hp hn' hlo hhi hM
    by_cases hlt : j < n
    · obtain ⟨x, hx⟩ : ∃ x, L'[j]? = some x := ⟨_, List.getElem?_eq_getElem (by rw [HN'.out]; exact hlt)⟩
      have hxL : L[j]? = some x := by rw [← HHi.out j (Nat.le_refl _)]; exact hx
      have e0 := PR.out.c0 j x hx
      have hk := HK.out j x hxL
      have HX := Lib.hid hx
      have HXL := Lib.hid hxL
      by_cases hq : x.k = 72 ∨ x.k = 46
      · have HLo2 := Lib.hid (show ∀ i, i < j + 1 → L'[i]? = (L[i]?).map (fillP S i) from fun i hi => by
          by_cases r : i = j
          · subst r; rw [HX.out, HXL.out]; simp only [Option.map_some]; unfold fillP; rw [if_pos hq]
          · exact HLo.out i (by omega))
        clear hx hxL hk
        rcases hq with q | q
        · rw [q] at e0
          go_wp2_with fail
          go_roundw
          case rel => exact ⟨j + 1, V', L', by omega, by go_num, PR.out, HN'.out, HLo2.out, fun i h => HHi.out i (by omega), MR.out⟩
          case measure => simp [intOf]; omega
        · rw [q] at e0
          go_wp2_with fail
          go_roundw
          case rel => exact ⟨j + 1, V', L', by omega, by go_num, PR.out, HN'.out, HLo2.out, fun i h => HHi.out i (by omega), MR.out⟩
          case measure => simp [intOf]; omega
      · obtain ⟨h1, lv, l, hlf⟩ : 1 ≤ j ∧ ∃ lv l, leafP (pageS S j) = some (lv, l) := by
          rcases hk with q | q | q
          · exact absurd (.inl q) hq
          · exact absurd (.inr q) hq
          · exact q
        have k1 : (x.k == 72) = false := beq_eq_false_iff_ne.2 (fun q => hq (.inl q))
        have k2 : (x.k == 46) = false := beq_eq_false_iff_ne.2 (fun q => hq (.inr q))
        have HF2 := Lib.hid (show fillP S j x = { x with l := lv, p := (l.length : Int) } by unfold fillP; rw [if_neg hq, hlf])
        have HSr := Lib.hid (sread_any (TT.out.same NSr.out) (DD.out.same NSr.out) hS (j : Int) (by omega))
        unfold SRead at HSr
        have hin : 1 ≤ (j : Int) ∧ (j : Int) < ((min (S.length / 16) 512 : Nat) : Int) := ⟨by omega, by rw [← HNp.out]; omega⟩
        simp only [if_pos hin, Int.toNat_natCast] at HSr
        unfold LeafR at HSr
        simp only [hlf] at HSr
        obtain ⟨nl, hnl⟩ : ∃ z, l.length = z := ⟨_, rfl⟩
        simp only [hnl] at HSr HF2
        clear hnl
        obtain ⟨xk, xl, xp, xv⟩ := x
        dsimp only at e0 k1 k2
        clear hx hxL hk hq hlf
        go_wp2_with fail
        refine HSr.out.mono ?_
        rintro e w4 ⟨⟨a, cc, rfl, -, -⟩, M⟩
        have P4 := Lib.hid (PR.out.same M)
        have MR4 := Lib.hid (MR.out.same M)
        have P5 := Lib.hid (P4.out.same (show Same w4 (w4.alloc (.cells #[.int .i64 lv, .slice a nl cc] 75)) from (Mod.refl _ _).alloc _))
        have M5 := Lib.hid (MR4.out.alloc (.cells #[.int .i64 lv, .slice a nl cc] 75))
        have Y5 := Lib.hid (Blk.new w4 #[.int .i64 lv, .slice a nl cc] 75)
        have q1 := P5.out.c1 j _ HX.out
        have q2 := P5.out.c2 j _ HX.out
        have q0 := P5.out.c0 j _ HX.out
        have q3 := P5.out.c3 j _ HX.out
        have f1 := P5.out.free (j * 4 + 1)
        have f2 := P5.out.free (j * 4 + 2)
        have y0 := Y5.out.at_ (i := 0) _ rfl
        have y1 := Y5.out.at_ (i := 1) _ rfl
        have hg4 : g ≠ w4.heap.size := fun e => by have := P4.out.lt; omega
        clear M HSr e0 PR MR P4 MR4 Y5
        go_wp2_with fail
        generalize w4.alloc _ = w5 at *
        have FS := Lib.hid (fill_set P5.out HX.out lv (nl : Int))
        have HLo2 := Lib.hid (show ∀ i, i < j + 1 → (L'.set j { k := xk, l := lv, p := (nl : Int), vs := xv })[i]? = (L[i]?).map (fillP S i) from fun i hi => by
          by_cases r : i = j
          · subst r
            rw [List.getElem?_set_self (by rw [HN'.out]; exact hlt), HXL.out, Option.map_some, HF2.out]
          · rw [List.getElem?_set_ne (fun e => r e.symm)]; exact HLo.out i (by omega))
        have HHi2 := Lib.hid (show ∀ i, j + 1 ≤ i → (L'.set j { k := xk, l := lv, p := (nl : Int), vs := xv })[i]? = L[i]? from fun i hi => by
          rw [List.getElem?_set_ne (by omega)]; exact HHi.out i (by omega))
        clear HLo HHi HF2
        go_region_law (fail)
        all_goals
          obtain ⟨⟨V3, hV3⟩, hM3⟩ := FS.out
          have PV := Lib.hid hV3
          have MV := Lib.hid (M5.out.then_ hM3 (fun _ _ q => q))
          clear hV3 hM3 FS q0 q1 q2 q3 f1 f2 y0 y1
          go_wp2_with fail
          go_roundw
          case rel => exact ⟨j + 1, V3, _, by omega, by go_num, PV.out, by rw [List.length_set]; exact HN'.out, HLo2.out, HHi2.out, MV.out⟩
          case measure => simp [intOf]; omega
    · obtain rfl : j = n := by omega
      have hall : L' = fillAll S L := by
        apply List.ext_getElem?
        intro i
        unfold fillAll
        rw [List.getElem?_mapIdx]
        by_cases hi : i < j
        · exact HLo.out i hi
        · rw [HHi.out i (by omega), List.getElem?_eq_none (by rw [HNn.out]; omega)]; rfl
      subst hall
      go_wp2_with fail
      exact HR.out _ _ ⟨rfl, ⟨V', PR.out⟩, MR.out⟩
end Go.Proofs.YtjkndfenniongaaGreatDoor
set_option maxRecDepth 100000
/- atlas.Look, of any image. -/
namespace Go.Proofs.YtjkndfenniongaaGreatDoor
open Go Go.RowKit
set_option maxHeartbeats 4000000 in
theorem blank2_any (n : Nat) (hn : n ≤ 512) (h0 : 0 < n) (w : World) : Calls Tryz.prog 12 #[.int .i64 (n : Int)] w fun e w' => (∃ g c, e = .returned (.slice (some ⟨g, 0, none⟩) n c) ∧ w.heap.size ≤ g ∧ RowV w' g (n * 4) (upd (cellsOf' (blankF n)) 0 (.int .i32 72))) ∧ Same w w' := by
  refine opq fun R HR => ?_
  obtain ⟨w1, hmk, hrow, M⟩ := make_pg n hn h0 w
  have RW := Lib.hid hrow
  have K1 := Lib.hid M
  clear hrow M
  go_enter Tryz.func12, Tryz.ntmps12
  go_wp2_with fail
  generalize hg : w.heap.size = g at *
  go_loopw [9, 4] (fun vi _ wr => ∃ k : Nat, k ≤ n ∧ vi = .int .i64 (k : Int) ∧ RowV wr g (n * 4) (cellsOf' (blankF k)) ∧ Same w wr) (fun vi _ _ => n - (intOf vi).toNat)
  case atStart => exact ⟨0, by omega, rfl, RW.out.congr (fun i hi => by unfold cellsOf' blankF; rw [if_neg (by omega)]), K1.out⟩
  case round =>
    obtain ⟨k, hk, rfl, hr, M⟩ := hrel
    have RR := Lib.hid hr
    have J := Lib.hid M
    clear hr M RW K1
    by_cases hlt : k < n
    · have e0 := RR.out.cell (k * 4) (by omega)
      have f0 := RR.out.free (k * 4)
      have R2 := Lib.hid ((RR.out.set (k * 4) (by omega) (.int .i32 46)).congr (fun i _ => blank_next k i))
      have J2 := Lib.hid (J.out.setCell (p := ⟨g, k * 4, none⟩) (fun q => by rw [hg] at q; exact absurd q (Nat.lt_irrefl g)) (.int .i32 46))
      clear RR J
      go_wp2_with fail
      go_roundw
      case rel => exact ⟨k + 1, by omega, by go_num, R2.out, J2.out⟩
      case measure => simp [intOf]; omega
    · obtain rfl : n = k := by omega
      have e0 := RR.out.cell 0 (by omega)
      have f0 := RR.out.free 0
      have R2 := Lib.hid (RR.out.set 0 (by omega) (.int .i32 72))
      have J2 := Lib.hid (J.out.setCell (p := ⟨g, 0, none⟩) (fun q => by rw [hg] at q; exact absurd q (Nat.lt_irrefl g)) (.int .i32 72))
      clear RR J
      go_wp2
      exact HR.out _ _ ⟨⟨_, _, rfl, by omega, R2.out⟩, J2.out⟩
def blankD (n : Nat) : List Pd := (List.range n).map fun i => if i = 0 then ⟨72, 0, 0, []⟩ else ⟨46, 0, 0, []⟩
theorem blankD_get {n i : Nat} {x : Pd} (h : (blankD n)[i]? = some x) : i < n ∧ x = if i = 0 then ⟨72, 0, 0, []⟩ else ⟨46, 0, 0, []⟩ := by
  unfold blankD at h
  rw [List.getElem?_map] at h
  obtain ⟨j, hj, rfl⟩ := Option.map_eq_some_iff.1 h
  obtain ⟨h1, rfl⟩ := List.getElem?_eq_some_iff.1 hj
  simp at h1
  simp [h1]
theorem blank_pgm {B : Nat} {w : World} {g n : Nat} {F : Nat → Prop} (h : RowV w g (n * 4) (upd (cellsOf' (blankF n)) 0 (.int .i32 72))) (hF : ¬ F g) (hfb : ∀ i, F i → i < w.heap.size) : Pgm B F w g (fun _ => .slice none 0 0) (blankD n) := by
  have hget : ∀ i x, (blankD n)[i]? = some x → ∀ t, t < 4 → w.cell? ⟨g, i * 4 + t, none⟩ = (pgC (if i = 0 then pgH else pgF))[t]? := fun i x hx t ht => by
    obtain ⟨hi, _⟩ := blankD_get hx
    refine (h.cell (i * 4 + t) (by omega)).trans ?_
    rw [blank_end n (i * 4 + t) (by omega), show (i * 4 + t) / 4 = i by omega, show (i * 4 + t) % 4 = t by omega]
    have hgd : (blankL n).getD i pgZ = if i = 0 then pgH else pgF := by
      unfold blankL
      rw [List.getD_eq_getElem?_getD, List.getElem?_map, List.getElem?_range hi]; rfl
    rw [hgd]
    by_cases q : i = 0
    · rw [if_pos q]
      rcases (show t = 0 ∨ t = 1 ∨ t = 2 ∨ t = 3 by omega) with e | e | e | e <;> (subst e; rfl)
    · rw [if_neg q]
      rcases (show t = 0 ∨ t = 1 ∨ t = 2 ∨ t = 3 by omega) with e | e | e | e <;> (subst e; rfl)
  refine ⟨h.lt, fun i x hx => ?_, fun i x hx => ?_, fun i x hx => ?_, fun i x hx => ?_, h.free, fun i x hx => ?_, hF, hfb, fun i b _ q => by simp [Value.ownBlock] at q, fun i j b _ _ _ q => by simp [Value.ownBlock] at q⟩
  · have := hget i x hx 0 (by omega)
    obtain ⟨_, hx2⟩ := blankD_get hx
    rw [Nat.add_zero] at this
    rw [this, hx2]
    by_cases q : i = 0
    · rw [if_pos q, if_pos q]; rfl
    · rw [if_neg q, if_neg q]; rfl
  · have := hget i x hx 1 (by omega)
    obtain ⟨_, hx2⟩ := blankD_get hx
    rw [this, hx2]
    by_cases q : i = 0
    · rw [if_pos q, if_pos q]; rfl
    · rw [if_neg q, if_neg q]; rfl
  · have := hget i x hx 2 (by omega)
    obtain ⟨_, hx2⟩ := blankD_get hx
    rw [this, hx2]
    by_cases q : i = 0
    · rw [if_pos q, if_pos q]; rfl
    · rw [if_neg q, if_neg q]; rfl
  · have := hget i x hx 3 (by omega)
    obtain ⟨_, hx2⟩ := blankD_get hx
    rw [this]
    by_cases q : i = 0
    · rw [if_pos q]; rfl
    · rw [if_neg q]; rfl
  · obtain ⟨_, hx2⟩ := blankD_get hx
    rw [hx2]
    by_cases q : i = 0
    · rw [if_pos q]; exact World.ownsRow_nil _ _ _ _
    · rw [if_neg q]; exact World.ownsRow_nil _ _ _ _
theorem blankD_len (n : Nat) : (blankD n).length = n := by unfold blankD; simp
/-- The pages of the index. -/
def setI : List Int → List Pd → List Pd
  | [], L => L
  | p :: r, L => setI r (match L[p.toNat]? with | some x => L.set p.toNat { x with k := 73 } | none => L)
theorem kok_set {S : List (List UInt8)} {L : List Pd} (h : KOk S L) {q : Nat} (hq : 1 ≤ q ∧ ∃ lv l, leafP (pageS S q) = some (lv, l)) (y : Pd) : KOk S (L.set q y) := by
  intro i x hx
  by_cases e : i = q
  · subst e; exact .inr (.inr hq)
  · rw [List.getElem?_set_ne (fun r => e r.symm)] at hx
    exact h i x hx
theorem mapIds_kok {S : List (List UInt8)} (id : Int) : ∀ (P : List Int) (L : List Pd), (∀ p ∈ P, 1 ≤ p.toNat ∧ ∃ lv l, leafP (pageS S p.toNat) = some (lv, l)) → KOk S L → KOk S (mapIds id P L) ∧ (mapIds id P L).length = L.length
  | [], L, _, h => ⟨h, rfl⟩
  | p :: r, L, hp, h => by
    rw [mapIds]
    cases hx : L[p.toNat]? with
    | none => exact mapIds_kok id r L (fun q hq => hp q (by simp [hq])) h
    | some x =>
      dsimp only
      have ih := mapIds_kok id r (L.set p.toNat (mapP id x)) (fun q hq => hp q (by simp [hq])) (kok_set h (hp p (by simp)) _)
      exact ⟨ih.1, by rw [ih.2, List.length_set]⟩
theorem setI_kok {S : List (List UInt8)} : ∀ (P : List Int) (L : List Pd), (∀ p ∈ P, 1 ≤ p.toNat ∧ ∃ lv l, leafP (pageS S p.toNat) = some (lv, l)) → KOk S L → KOk S (setI P L) ∧ (setI P L).length = L.length
  | [], L, _, h => ⟨h, rfl⟩
  | p :: r, L, hp, h => by
    rw [setI]
    cases hx : L[p.toNat]? with
    | none => exact setI_kok r L (fun q hq => hp q (by simp [hq])) h
    | some x =>
      dsimp only
      have ih := setI_kok r (L.set p.toNat { x with k := 73 }) (fun q hq => hp q (by simp [hq])) (kok_set h (hp p (by simp)) _)
      exact ⟨ih.1, by rw [ih.2, List.length_set]⟩
theorem walk_ok {S : List (List UInt8)} {root : Int} {st : WSt} (h : walkW S root = some st) : ∀ p ∈ st.1, 1 ≤ p.toNat ∧ ∃ lv l, leafP (pageS S p.toNat) = some (lv, l) := fun p hp => by
  obtain ⟨h1, h2⟩ := walk_pages h p hp
  exact ⟨by omega, h2⟩
theorem mapsW_kok {S : List (List UInt8)} : ∀ (V : List Vl) (L L2 : List Pd), mapsW S V L = some L2 → KOk S L → KOk S L2 ∧ L2.length = L.length
  | [], L, L2, h, k => by simp only [mapsW] at h; cases h; exact ⟨k, rfl⟩
  | v :: r, L, L2, h, k => by
    simp only [mapsW] at h
    cases hw : walkW S v.root with
    | none => rw [hw] at h; cases h
    | some st =>
      rw [hw] at h
      have h1 := mapIds_kok v.id st.1 L (walk_ok hw) k
      have h2 := mapsW_kok r _ L2 h h1.1
      exact ⟨h2.1, h2.2.trans h1.2⟩
theorem mapsAll_kok {S : List (List UInt8)} {root : Int} {L L2 : List Pd} (h : mapsAll S root L = some L2) (k : KOk S L) : KOk S L2 ∧ L2.length = L.length := by
  unfold mapsAll at h
  cases hv : treeVols S root with
  | none => rw [hv] at h; cases h
  | some V => rw [hv] at h; exact mapsW_kok V L L2 h k
theorem blank_kok (S : List (List UInt8)) (n : Nat) : KOk S (blankD n) := by
  intro i x hx
  obtain ⟨_, rfl⟩ := blankD_get hx
  by_cases q : i = 0
  · left; rw [if_pos q]
  · right; left; rw [if_neg q]
theorem readH_good {l : List UInt8} {h : Hd} (e : readH l = some h) : goodH h = true := by
  unfold readH at e
  split at e
  · cases e
  · split at e
    · rename_i q; cases e; exact q.2
    · cases e
theorem openS_good {S : List (List UInt8)} {h : Hd} {i : Nat} (e : openS S = some (h, i)) : goodH h = true := by
  unfold openS at e
  split at e
  · cases e
  · unfold newest at e
    split at e
    · rename_i h1 h2; cases e; exact readH_good h1
    · rename_i h1 h2
      split at e
      · cases e; exact readH_good h1
      · cases e; exact readH_good h2
    · rename_i h1 h2; cases e; exact readH_good h2
    · cases e
theorem kind_put {B : Nat} {F : Nat → Prop} {w : World} {g : Nat} {V : Nat → Value} {L : List Pd} (P : Pgm B F w g V L) {j : Nat} {x : Pd} (hx : L[j]? = some x) (kk : Int) :
    (∃ V', Pgm B F (w.setCell ⟨g, j * 4, none⟩ (.int .i32 kk)) g V' (L.set j { x with k := kk })) ∧ Mod (fun b => ¬ F b) w (w.setCell ⟨g, j * 4, none⟩ (.int .i32 kk)) := by
  have hil : j < L.length := (List.getElem?_eq_some_iff.1 hx).1
  obtain ⟨b0, b1, b2, b3, bf, bm⟩ := kind_set (P.c0 j x hx) (P.c1 j x hx) (P.c2 j x hx) (P.c3 j x hx) (.int .i32 kk)
  have R := P.turn (y := { x with k := kk }) hx bm (fun b q => .inl q) (fun t ht => bf t (by omega)) (fun t => by rw [frozen_setCell]; exact P.free t) b0 b1 b2 b3 (own_mod2 (P.own j x hx) bm (fun b hb q => (P.vf j b hil hb).1 q)) (fun b hb => .inl hb)
  exact ⟨⟨_, R.1⟩, R.2⟩
/-- What the program's look brings. -/
def lookW (S : List (List UInt8)) : Option (List Pd) := match openS S with
  | none => none
  | some (h, _) => match walkW S h.root with
    | none => none
    | some st => (mapsAll S h.root (blankD (min (S.length / 16) 512))).map fun L => fillAll S (setI st.1 L)
end Go.Proofs.YtjkndfenniongaaGreatDoor
set_option maxRecDepth 100000
/- atlas.Look, of any image: the walk. -/
namespace Go.Proofs.YtjkndfenniongaaGreatDoor
open Go Go.RowKit
def LookP (S : List (List UInt8)) (B : Nat) (e : Ending) (w' : World) : Prop := match lookW S with
  | none => e = .returned (.tuple #[.slice none 0 0, .int .i64 3])
  | some L => ∃ g c V, e = .returned (.tuple #[.slice (some ⟨g, 0, none⟩) L.length c, .int .i64 0]) ∧ Pgm B (fun i => i < B) w' g V L
theorem own_base {w : World} {B B' size n : Nat} {e : TypeId} {v : Value} {xs : List Value} (h : w.ownsRow B e size v n xs) (hb : B' ≤ B) : w.ownsRow B' e size v n xs := by
  obtain ⟨hl, h0 | ⟨g, cap, cur, hv, hg, r⟩⟩ := h
  · exact ⟨hl, .inl h0⟩
  · exact ⟨hl, .inr ⟨g, cap, cur, hv, Nat.le_trans hb hg, r⟩⟩
theorem Pgm.base {B B' : Nat} {F : Nat → Prop} {w : World} {g : Nat} {V : Nat → Value} {L : List Pd} (h : Pgm B F w g V L) (hb : B' ≤ B) : Pgm B' F w g V L :=
  ⟨h.lt, h.c0, h.c1, h.c2, h.c3, h.free, fun i x q => own_base (h.own i x q) hb, h.fg, h.fb, h.vf, h.ap⟩
set_option maxHeartbeats 16000000 in
theorem look_any {B : Nat} {w : World} {d m lb : Nat} {u : Int} {S : List (List UInt8)} (h : Dev B w d m lb u S (.map [])) (hS : ∀ s ∈ S, s.length = 16) :
    Calls Tryz.prog 6 #[bp d] w fun e w' => LookP S w.heap.size e w' ∧ Same w w' := by
  cases ho : openS S with
  | none =>
    have hl : lookW S = none := by unfold lookW; rw [ho]
    refine (look_bad h hS ho).mono ?_
    rintro e w' ⟨he, M⟩
    exact ⟨by unfold LookP; rw [hl]; exact he, M⟩
  | some p =>
    obtain ⟨hh, i⟩ := p
    refine opq fun R HR => ?_
    have hgd := goodH_bounds (openS_good ho)
    have hroot : I64 hh.root := by unfold I64; omega
    unfold LookP lookW at HR
    rw [ho] at HR
    dsimp only at HR
    have HO := Lib.hid (open_store h hS)
    have HD := Lib.hid h
    have hnp : 1 < min (S.length / 16) 512 := by
      unfold openS at ho
      by_cases q : min (S.length / 16) 512 ≤ 1
      · rw [if_pos q] at ho; cases ho
      · omega
    unfold OpenP at HO
    rw [ho] at HO
    dsimp only at HO
    clear h ho hgd
    go_enter Tryz.func6, Tryz.ntmps6
    go_wp2_with fail
    refine HO.out.mono ?_
    rintro e w1 ⟨⟨s, kb, fb, rfl, hst⟩, M⟩
    have ST := Lib.hid hst
    have D1 := Lib.hid (HD.out.same M)
    have K1 := Lib.hid M
    clear M hst HO HD
    have HPg := Lib.hid (spages_any ST.out D1.out)
    obtain ⟨n, hn⟩ : ∃ z, min (S.length / 16) 512 = z := ⟨_, rfl⟩
    have HN := Lib.hid hn
    have hn5 : n ≤ 512 := by omega
    rw [hn] at HR HPg hnp
    clear hn
    go_wp2_with fail
    refine HPg.out.mono ?_
    rintro e w2 ⟨rfl, rfl⟩
    clear HPg
    go_wp2_with fail
    refine (blank2_any n hn5 (by omega) w2).mono ?_
    rintro e w3 ⟨⟨g, c, rfl, hgb, hrow⟩, M⟩
    have RW := Lib.hid hrow
    have K3 := Lib.hid (show Same w2 w3 from M)
    clear M hrow
    have HH := Lib.hid (shead_any (ST.out.same K3.out))
    obtain ⟨gen, root, s0, s1, ch⟩ := hh
    dsimp only at hroot HR
    dsimp only [hdV, hdC] at HH
    go_wp2_with fail
    refine HH.out.mono ?_
    rintro e w4 ⟨rfl, M⟩
    have K4 := Lib.hid (K3.out.same M)
    have hw24 : w2.heap.size ≤ w4.heap.size := K4.out.size
    have HRc := Lib.hid (reach_any (ST.out.same K4.out) (D1.out.same K4.out) hS root hroot)
    have hw34 : w3.heap.size ≤ w4.heap.size := M.size
    have P4 := Lib.hid ((blank_pgm (B := w2.heap.size) (F := fun i => i < w2.heap.size) RW.out (by omega) (fun i q => Nat.lt_of_lt_of_le q K3.out.size)).same M)
    unfold ReachP at HRc
    clear M K3 RW HH
    go_wp2_with fail
    refine HRc.out.mono ?_
    rintro e w5 ⟨hrc, M⟩
    have K5 := Lib.hid (K4.out.same M)
    have P5 := Lib.hid (P4.out.more M)
    have hw45 : w4.heap.size ≤ w5.heap.size := M.size
    clear M HRc P4
    cases hwk : walkW S root with
    | none =>
      rw [hwk] at HR hrc
      dsimp only at hrc HR
      subst hrc
      have K6 := Lib.hid (K1.out.same K5.out)
      go_wp2_with fail
      go_loopw [37, 9] (fun vi _ wr => vi = .int .i64 0 ∧ wr = w5) (fun _ _ _ => 0)
      case atStart => exact ⟨rfl, rfl⟩
      case round =>
        obtain ⟨rfl, rfl⟩ := hrel
        go_wp2_with fail
        exact HR.out _ _ ⟨rfl, K6.out⟩
    | some st =>
      rw [hwk] at HR hrc
      dsimp only at hrc HR
      obtain ⟨pa, pc, rfl, hpi, hpl, hpf⟩ := hrc
      have HPi := Lib.hid hpi
      have HPg := Lib.hid (walk_pages hwk)
      have HPk := Lib.hid (walk_ok hwk)
      obtain ⟨np, hnp2⟩ : ∃ z, st.1.length = z := ⟨_, rfl⟩
      have HNP := Lib.hid hnp2
      rw [hnp2] at hpl ⊢
      have HMa := Lib.hid (fun hq => maps_any (c := c) ST.out D1.out hS hroot K5.out hq P5.out (blankD_len n) HN.out.symm (fun x hx => by
        obtain ⟨i, hi⟩ := List.getElem?_of_mem hx
        obtain ⟨_, rfl⟩ := blankD_get hi
        by_cases q : i = 0
        · rw [if_pos q]; rfl
        · rw [if_neg q]; rfl))
      dsimp only at HMa
      have HKO := Lib.hid (fun L2 (hq : mapsAll S root (blankD n) = some L2) => mapsAll_kok hq (blank_kok S n))
      clear hpi hnp2 hwk
      go_wp2_with fail
      refine (HMa.out (fun i q => .inl q)).mono ?_
      rintro e w6 ⟨⟨V', L', hp6, hl6, hres⟩, hM⟩
      have P6 := Lib.hid hp6
      have HL6 := Lib.hid hl6
      have M6 := Lib.hid hM
      clear hp6 hl6 hM HMa
      cases hma : mapsAll S root (blankD n) with
      | none =>
        rw [hma] at HR hres
        dsimp only [Option.map] at hres HR
        subst hres
        clear hma
        go_wp2_with fail
        go_loopw [37, 9] (fun vi _ wr => ∃ (i : Nat) (V'' : Nat → Value) (L'' : List Pd), i ≤ np ∧ vi = .int .i64 (i : Int) ∧ Pgm w2.heap.size (fun i => i < w2.heap.size ∨ (w4.heap.size ≤ i ∧ i < w5.heap.size)) wr g V'' L'' ∧ L''.length = n ∧ setI (st.1.drop i) L'' = setI st.1 L' ∧ Mod (fun i => ¬ (i < w2.heap.size ∨ (w4.heap.size ≤ i ∧ i < w5.heap.size))) w6 wr) (fun vi _ _ => np - (intOf vi).toNat)
        case atStart => exact ⟨0, V', L', by omega, rfl, P6.out, HL6.out, rfl, Mod.refl _ _⟩
        case round =>
          obtain ⟨i, V'', L'', hi, rfl, hp, hn', hr', hM⟩ := hrel
          have PQ := Lib.hid hp
          have HN2 := Lib.hid hn'
          have HR2 := Lib.hid hr'
          have MQ := Lib.hid (M6.out.then_ hM (fun _ _ q => q))
          have MQ6 := Lib.hid hM
          clear hp hn' hr' hM
          by_cases hli : i < np
          · obtain ⟨pb, po, rfl, hpb, hpc⟩ := HPi.out (by rw [HNP.out]; omega)
            have hpw : w4.heap.size ≤ pb := hpf pb po rfl
            obtain ⟨p, hpp⟩ : ∃ x, st.1[i]? = some x := ⟨_, List.getElem?_eq_getElem (by rw [HNP.out]; exact hli)⟩
            have hdp : st.1.drop i = p :: st.1.drop (i + 1) := by
              have := List.drop_eq_getElem_cons (l := st.1) (i := i) (by rw [HNP.out]; exact hli)
              rw [this]
              congr 1
              exact (List.getElem?_eq_some_iff.1 hpp).2
            have e0 := (MQ.out.cell hpb (fun q => q (.inr ⟨hpw, hpb⟩)) _).trans (hpc i p hpp)
            have hpr := (HPg.out p (List.mem_of_getElem? hpp)).1
            rw [HN.out] at hpr
            obtain ⟨q, rfl⟩ : ∃ q : Nat, p = (q : Int) := ⟨p.toNat, by omega⟩
            have hq1 : 1 ≤ q ∧ q < n := by omega
            obtain ⟨x, hx⟩ : ∃ x, L''[q]? = some x := ⟨_, List.getElem?_eq_getElem (by rw [HN2.out]; omega)⟩
            have k0 := PQ.out.c0 q x hx
            have k0f := PQ.out.free (q * 4)
            have HR3 := Lib.hid (show setI (st.1.drop (i + 1)) (L''.set q { x with k := 73 }) = setI st.1 L' by
              rw [← HR2.out, hdp, setI, Int.toNat_natCast, hx])
            have KP := Lib.hid (kind_put PQ.out hx 73)
            clear hpc hpp hdp hpr hx HR2
            go_wp2_with fail
            go_roundw
            obtain ⟨⟨V3, hV3⟩, hM3⟩ := KP.out
            case rel => exact ⟨i + 1, V3, _, by omega, by go_num, hV3, by rw [List.length_set]; exact HN2.out, HR3.out, MQ6.out.then_ hM3 (fun _ _ q => q)⟩
            case measure => simp [intOf]; omega
          · obtain rfl : i = np := by omega
            have hfin := HR2.out
            rw [List.drop_of_length_le (by rw [HNP.out]; omega), setI] at hfin
            subst hfin
            have K6 := Lib.hid (K1.out.same (K5.out.then_ MQ.out (fun i hi q => q (.inl hi)) : Same w2 wr))
            go_wp2_with fail
            exact HR.out _ _ ⟨rfl, K6.out⟩
      | some L2 =>
        have hkok := HKO.out L2 hma
        rw [hma] at HR hres
        dsimp only [Option.map] at hres HR
        obtain ⟨rfl, hLL⟩ := hres
        subst hLL
        clear hma
        go_wp2_with fail
        go_loopw [37, 9] (fun vi _ wr => ∃ (i : Nat) (V'' : Nat → Value) (L'' : List Pd), i ≤ np ∧ vi = .int .i64 (i : Int) ∧ Pgm w2.heap.size (fun i => i < w2.heap.size ∨ (w4.heap.size ≤ i ∧ i < w5.heap.size)) wr g V'' L'' ∧ L''.length = n ∧ setI (st.1.drop i) L'' = setI st.1 L' ∧ Mod (fun i => ¬ (i < w2.heap.size ∨ (w4.heap.size ≤ i ∧ i < w5.heap.size))) w6 wr) (fun vi _ _ => np - (intOf vi).toNat)
        case atStart => exact ⟨0, V', L', by omega, rfl, P6.out, HL6.out, rfl, Mod.refl _ _⟩
        case round =>
          obtain ⟨i, V'', L'', hi, rfl, hp, hn', hr', hM⟩ := hrel
          have PQ := Lib.hid hp
          have HN2 := Lib.hid hn'
          have HR2 := Lib.hid hr'
          have MQ := Lib.hid (M6.out.then_ hM (fun _ _ q => q))
          have MQ6 := Lib.hid hM
          clear hp hn' hr' hM
          by_cases hli : i < np
          · obtain ⟨pb, po, rfl, hpb, hpc⟩ := HPi.out (by rw [HNP.out]; omega)
            have hpw : w4.heap.size ≤ pb := hpf pb po rfl
            obtain ⟨p, hpp⟩ : ∃ x, st.1[i]? = some x := ⟨_, List.getElem?_eq_getElem (by rw [HNP.out]; exact hli)⟩
            have hdp : st.1.drop i = p :: st.1.drop (i + 1) := by
              have := List.drop_eq_getElem_cons (l := st.1) (i := i) (by rw [HNP.out]; exact hli)
              rw [this]
              congr 1
              exact (List.getElem?_eq_some_iff.1 hpp).2
            have e0 := (MQ.out.cell hpb (fun q => q (.inr ⟨hpw, hpb⟩)) _).trans (hpc i p hpp)
            have hpr := (HPg.out p (List.mem_of_getElem? hpp)).1
            rw [HN.out] at hpr
            obtain ⟨q, rfl⟩ : ∃ q : Nat, p = (q : Int) := ⟨p.toNat, by omega⟩
            have hq1 : 1 ≤ q ∧ q < n := by omega
            obtain ⟨x, hx⟩ : ∃ x, L''[q]? = some x := ⟨_, List.getElem?_eq_getElem (by rw [HN2.out]; omega)⟩
            have k0 := PQ.out.c0 q x hx
            have k0f := PQ.out.free (q * 4)
            have HR3 := Lib.hid (show setI (st.1.drop (i + 1)) (L''.set q { x with k := 73 }) = setI st.1 L' by
              rw [← HR2.out, hdp, setI, Int.toNat_natCast, hx])
            have KP := Lib.hid (kind_put PQ.out hx 73)
            clear hpc hpp hdp hpr hx HR2
            go_wp2_with fail
            go_roundw
            obtain ⟨⟨V3, hV3⟩, hM3⟩ := KP.out
            case rel => exact ⟨i + 1, V3, _, by omega, by go_num, hV3, by rw [List.length_set]; exact HN2.out, HR3.out, MQ6.out.then_ hM3 (fun _ _ q => q)⟩
            case measure => simp [intOf]; omega
          · obtain rfl : i = np := by omega
            have hfin := HR2.out
            rw [List.drop_of_length_le (by rw [HNP.out]; omega), setI] at hfin
            subst hfin
            have hkk := (setI_kok st.1 L' HPk.out hkok.1).1
            have hll := (setI_kok st.1 L' HPk.out hkok.1).2
            have HFi := Lib.hid (fun hq => fill_any (c := c) ST.out D1.out hS (K5.out.then_ MQ.out (fun i hi q => q (.inl hi)) : Same w2 wr) hq PQ.out HN2.out HN.out.symm hkk)
            go_wp2_with fail
            refine (HFi.out (fun i q => .inl q)).mono ?_
            rintro e w8 ⟨rfl, ⟨V8, hP8⟩, hM8⟩
            have K6 := Lib.hid (K1.out.same (K5.out.then_ (MQ.out.then_ hM8 (fun _ _ q => q)) (fun i hi q => q (.inl hi)) : Same w2 w8))
            have PF := Lib.hid ((hP8.base K1.out.size).less (F' := fun i => i < w.heap.size) (fun i q => .inl (Nat.lt_of_lt_of_le q K1.out.size)))
            have hlen : (fillAll S (setI st.1 L')).length = n := by unfold fillAll; rw [List.length_mapIdx]; exact HN2.out
            have HLn := Lib.hid hlen
            clear hP8 hM8 hlen HFi hkk hll
            go_wp2_with fail
            exact HR.out _ _ ⟨⟨g, c, V8, by rw [HLn.out]; rfl, PF.out⟩, K6.out⟩
end Go.Proofs.YtjkndfenniongaaGreatDoor
