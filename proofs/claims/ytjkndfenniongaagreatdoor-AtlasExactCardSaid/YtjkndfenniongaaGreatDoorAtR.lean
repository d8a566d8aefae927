import Derived.Test.YtjkndfenniongaaGreatDoorAtQ
set_option linter.unusedSimpArgs false
set_option linter.unusedVariables false
set_option maxRecDepth 100000
/- The law AtlasText. -/
namespace Go.Proofs.YtjkndfenniongaaGreatDoor
open Go Go.RowKit
/-- Runes in memory. -/
def Rus (w : World) (a : Option Addr) (K : List Int) : Prop := 0 < K.length → ∃ b o, a = some ⟨b, o, none⟩ ∧ b < w.heap.size ∧ ∀ (i : Nat) (x : Int), K[i]? = some x → w.cell? ⟨b, o + i, none⟩ = some (.int .i32 x)
def pgK (x : Int) : Pg := ⟨x, 0, 0, none, 0, 0⟩
def pgsK (K : List Int) (j : Nat) : List Pg := (K.take j).map pgK
theorem pgsK_succ {K : List Int} {j : Nat} {x : Int} (h : K[j]? = some x) : pgsK K (j + 1) = pgsK K j ++ [pgK x] := by
  unfold pgsK
  rw [List.take_add_one, h, List.map_append]; rfl
theorem pgsK_k (K : List Int) : (pgsK K K.length).map Pg.k = K := by
  unfold pgsK
  rw [List.take_length, List.map_map]
  have : (Pg.k ∘ pgK) = id := by funext x; rfl
  rw [this, List.map_id]
theorem empty_owns (w : World) (base size : Nat) (e : TypeId) (h : base ≤ w.heap.size) : (w.alloc (.cells #[] e)).ownsRow base e size (.slice (some ⟨w.heap.size, 0, none⟩) 0 0) 0 [] :=
  ⟨by simp, .inr ⟨w.heap.size, 0, #[], rfl, h, heap_new _ _, by simp, by simp [maxLen], by simp, by simp⟩⟩
theorem same_app4 {w0 w w' : World} {size n : Nat} {e : TypeId} {v : Value} {xs : List Value} (M : Same w0 w) (own : w.ownsRow w0.heap.size e size v n xs) (hg : w.grownBy w' v.ownBlock) : Same w0 w' :=
  M.grown hg (fun k hk hl => by have := (own.lt k hk).1; omega)
theorem pg_new (w : World) (x : Int) (t : TypeId) : ∀ j u, (pgC (pgK x))[j]? = some u → (w.alloc (.cells #[.int .i32 x, .int .i64 0, .int .i64 0, .slice none 0 0] t)).cell? (Addr.add ⟨w.heap.size, 0, none⟩ j) = some u := by
  intro j u hu
  have hadd : (⟨w.heap.size, 0, none⟩ : Addr).add j = ⟨w.heap.size, j, none⟩ := by unfold Addr.add; split <;> simp_all
  rw [hadd]
  refine ((Blk.new w _ t).cell j).trans ?_
  match j, hu with
  | 0, hu => exact hu
  | 1, hu => exact hu
  | 2, hu => exact hu
  | 3, hu => exact hu
theorem flat4_len (L : List Pg) : (L.flatMap pgC).length = L.length * 4 := by
  induction L with
  | nil => rfl
  | cons x L ih => rw [List.flatMap_cons, List.length_append, ih, List.length_cons]; simp [pgC]; omega
theorem flat4_get : ∀ (L : List Pg) (i j : Nat) (x : Pg), L[i]? = some x → j < 4 → (L.flatMap pgC)[i * 4 + j]? = (pgC x)[j]?
  | [], i, j, x, h, _ => by simp at h
  | y :: L, 0, j, x, h, hj => by
    simp at h
    subst h
    rw [List.flatMap_cons, Nat.zero_mul, Nat.zero_add, List.getElem?_append_left (by simpa [pgC] using hj)]
  | y :: L, i + 1, j, x, h, hj => by
    rw [List.flatMap_cons, List.getElem?_append_right (by simp [pgC]; omega)]
    rw [show (i + 1) * 4 + j - (pgC y).length = i * 4 + j by simp [pgC]; omega]
    exact flat4_get L i j x (by simpa using h) hj
theorem pgs_own {w : World} {base : Nat} {ty : TypeId} {v : Value} {L : List Pg} (h : w.ownsRow base ty 4 v L.length (L.flatMap pgC)) : ∃ a c, v = .slice a L.length c ∧ Pgs w a L := by
  by_cases hp : 0 < L.length
  · obtain ⟨g, cap, hv, hb, hc, hr⟩ := RowV.of_owns h hp
    refine ⟨some ⟨g, 0, none⟩, cap, hv, fun _ => ⟨g, 0, rfl, hr.lt, fun i j x u h1 h2 => ?_⟩⟩
    have hi : i < L.length := (List.getElem?_eq_some_iff.1 h1).1
    have hj : j < 4 := (List.getElem?_eq_some_iff.1 h2).1
    rw [Nat.zero_add]
    refine (hr.cell (i * 4 + j) (by omega)).trans ?_
    rw [List.getD_eq_getElem?_getD, flat4_get L i j x h1 hj, h2]; rfl
  · obtain ⟨a, c, hs⟩ := owns_slice h
    exact ⟨a, c, hs, fun q => absurd q hp⟩
theorem conv1 (w : World) (v : UInt8) : (convert 40 9 (.slice (some ⟨w.heap.size, 0, none⟩) 1 1)).run Tryz.prog (w.alloc (.cells #[.int .u8 (v.toNat : Int)] 5)) = .ok (.string ⟨#[v]⟩) (w.alloc (.cells #[.int .u8 (v.toNat : Int)] 5)) := by
  have e : strOfNums [(v.toNat : Int)] = ⟨#[v]⟩ := by unfold strOfNums; simp
  rw [← e]
  refine run_convert_bytes_arg (P := Tryz.prog) _ 40 5 Tryz.underlying40 Tryz.underlying5 w.heap.size 0 1 1 _ rfl ?_ 9 Tryz.underlying9
  intro i hi
  match i, hi with
  | 0, _ => exact (Blk.new w _ 5).cell 0
theorem app1 (l : List UInt8) (c : UInt8) : (⟨l.toArray⟩ : ByteArray) ++ ⟨#[c]⟩ = ⟨(l ++ [c]).toArray⟩ := str_app l [c]
theorem oneCells (x : Int) : ∀ u ∈ pgC (pgK x), u.oneCell' = true := fun u hu => by
  unfold pgC pgK at hu
  simp at hu
  rcases hu with rfl | rfl | rfl | rfl <;> rfl
set_option maxHeartbeats 16000000 in
theorem atlasText_main (a : Option Addr) (c : Nat) (K : List Int) (row : Int) (w : World) (hl : K.length ≤ 9223372036854775807) (hK : Rus w a K) :
    Calls Tryz.prog 4 #[.slice a K.length c, .int .i64 row] w fun e w' => e = .returned (.bool true) ∧ Same w w' := by
  refine opq fun R HR => ?_
  have HK := Lib.hid hK
  obtain ⟨n, hn⟩ : ∃ n, K.length = n := ⟨_, rfl⟩
  rw [hn] at hl ⊢
  have HN := Lib.hid hn
  clear hn hK
  by_cases h100 : n ≤ 100
  · obtain ⟨k, hk⟩ : ∃ k : Nat, min (max row 1) 512 = (k : Int) := ⟨(min (max row 1) 512).toNat, by omega⟩
    have hk1 : 1 ≤ k ∧ k ≤ 512 := by omega
    have hk0 : ¬ (k : Int) = 0 := by omega
    have HS := Lib.hid (txP_succ k K)
    rw [HN.out] at HS
    obtain ⟨i0, hi, hz0, hz1, hz2⟩ := info_parts info34
    have I0 := Lib.hid hi
    have Z0 := Lib.hid hz0
    have Z1 := Lib.hid hz1
    have Z2 := Lib.hid hz2
    clear hi hz0 hz1 hz2
    have d1 : ¬ (n : Int) > 100 := by omega
    have d2 : decide ((n : Int) > 100) = false := decide_eq_false d1
    have d3 : decide ((100 : Int) < (n : Int)) = false := decide_eq_false d1
    have d4 : decide (100 < n) = false := decide_eq_false (by omega)
    go_enter Tryz.func4, Tryz.ntmps4
    go_wp2_with fail
    refine (awake_any w).mono ?_
    rintro e w1 ⟨rfl, M⟩
    have K1 := Lib.hid M
    clear M
    have O1 := Lib.hid (empty_owns w1 w1.heap.size 4 34 (Nat.le_refl _))
    have M1 := Lib.hid (show Same w1 (w1.alloc (.cells #[] 34)) from (Mod.refl _ _).alloc _)
    go_wp2_with fail
    generalize w1.alloc _ = W1 at *
    go_loopw [8, 5, 6] (fun vi vl vs wr => ∃ j : Nat, j ≤ n ∧ vi = .int .i64 (j : Int) ∧ vs = strV (txP k K j) ∧ wr.ownsRow w1.heap.size 34 4 vl j ((pgsK K j).flatMap pgC) ∧ Same w1 wr) (fun vi _ _ _ => n - (intOf vi).toNat)
    case atStart => exact ⟨0, by omega, rfl, rfl, O1.out, M1.out⟩
    case round =>
      obtain ⟨j, hj, rfl, rfl, hown, M⟩ := hrel
      have J := Lib.hid M
      have J1 := Lib.hid hown
      have hsz : w1.heap.size ≤ wr.heap.size := M.size
      clear M hown O1 M1
      unfold strV
      by_cases hlt : j < n
      · obtain ⟨bl, o, rfl, hb, hcl⟩ := HK.out (by rw [HN.out]; omega)
        obtain ⟨x, hx⟩ : ∃ x, K[j]? = some x := ⟨_, List.getElem?_eq_getElem (by rw [HN.out]; exact hlt)⟩
        have hcj := (K1.out.cell hb (fun q => q) _).trans (hcl j x hx)
        have hb0 : bl < w1.heap.size := Nat.lt_of_lt_of_le hb K1.out.size
        have e0 := (J.out.cell hb0 (fun q => q) _).trans hcj
        have HPg := Lib.hid (pgsK_succ hx)
        have hSj := HS.out j
        rw [show K.getD j 0 = x by rw [List.getD_eq_getElem?_getD, hx]; rfl] at hSj
        have HSj := Lib.hid hSj
        unfold nlB at HSj
        clear hcl hx hSj hb
        have hw1 : IntKind.i64.wrap ((j : Int) + 1) = ((j + 1 : Nat) : Int) := by rw [IntWalk.i64_in _ (by omega)]; rfl
        have hq : ((j + 1 : Nat) : Int).tmod (k : Int) = (((j + 1) % k : Nat) : Int) := by
          rw [Int.tmod_eq_emod_of_nonneg (by omega)]; rfl
        have hqi : IntKind.i64.wrap (((j + 1) % k : Nat) : Int) = (((j + 1) % k : Nat) : Int) := by
          have := Nat.mod_lt (j + 1) (show 0 < k by omega)
          exact IntWalk.i64_in _ (by omega)
        have hlen := txP_len k K j
        generalize txP k K j = acc at *
        have hov1 : ¬ 9223372036854775807 < acc.length + 1 := by omega
        have hov2 : ¬ 9223372036854775807 < acc.length + 1 + 1 := by omega
        clear hlen
        by_cases hx72 : x = 72
        · subst hx72
          have kc : ∀ w : World, (convert 40 9 (.slice (some ⟨w.heap.size, 0, none⟩) 1 1)).run Tryz.prog (w.alloc (.cells #[.int .u8 72] 5)) = .ok (.string ⟨#[72]⟩) (w.alloc (.cells #[.int .u8 72] 5)) := fun w => conv1 w 72
          have hu8 : IntKind.u8.wrap 72 = 72 := by decide
          have ha1 := app1 acc 72
          have ha2 := app1 (acc ++ [72]) 10
          by_cases hr : (j + 1) % k = 0
          · rw [if_pos (.inl hr)] at HSj
            have hz0 : ((j + 1 : Nat) : Int) % (k : Int) = 0 := by omega
            have hz : (((j + 1 : Nat) : Int) % (k : Int) == 0) = true := by rw [hz0]; rfl
            have hz' : (((j : Int) + 1) % (k : Int) == 0) = true := hz
            rw [hr] at hq hqi
            clear hr
            go_wp2_with (at_builtin; refine wpList_append_own _ rfl (.tmp 24) (.tmp 30) 23 rfl w1.heap.size 34 i0 (.agg #[.int .i32 0, .int .i64 0, .int .i64 0, .slice none 0 0]) 4 48 Tryz.underlying23 I0.out Z0.out Z1.out Z2.out rfl (by decide) _ _ _ rfl (J1.out.alloc _) ⟨wr.heap.size, 0, none⟩ 1 1 (pgC (pgK 72)) rfl rfl (pg_new wr 72 34) (oneCells 72) (by unfold maxLen; omega) (by omega) (by simp only [World.size_alloc]; omega) ?_; intro v3 w3 hown' hgrow _; have OW := Lib.hid hown'; have P1 := Lib.hid (same_app4 (J.out.alloc _) (J1.out.alloc _) hgrow); have e0c := (P1.out.cell hb0 (fun q => q) _).trans hcj; clear hown' hgrow J J1 e0)
            go_roundw
            case rel => exact ⟨j + 1, by omega, by first | rfl | go_num, by rw [HSj.out]; simp [kdB], by rw [HPg.out, List.flatMap_append]; first | simpa using OW.out | simpa using (OW.out.alloc (.cells #[.int .u8 72] 5)), by first | exact P1.out | exact P1.out.alloc _⟩
            case measure => simp [intOf]; omega
          · have hz : (((j + 1 : Nat) : Int) % (k : Int) == 0) = false := beq_eq_false_iff_ne.2 (by omega)
            have hz' : (((j : Int) + 1) % (k : Int) == 0) = false := hz
            by_cases hjn : j + 1 = n
            · rw [if_pos (.inr hjn)] at HSj
              have hjb : ((((j + 1 : Nat)) : Int) == (n : Int)) = true := by simp [hjn]
              rw [hjn] at hz
              go_wp2_with (at_builtin; refine wpList_append_own _ rfl (.tmp 24) (.tmp 30) 23 rfl w1.heap.size 34 i0 (.agg #[.int .i32 0, .int .i64 0, .int .i64 0, .slice none 0 0]) 4 48 Tryz.underlying23 I0.out Z0.out Z1.out Z2.out rfl (by decide) _ _ _ rfl (J1.out.alloc _) ⟨wr.heap.size, 0, none⟩ 1 1 (pgC (pgK 72)) rfl rfl (pg_new wr 72 34) (oneCells 72) (by unfold maxLen; omega) (by omega) (by simp only [World.size_alloc]; omega) ?_; intro v3 w3 hown' hgrow _; have OW := Lib.hid hown'; have P1 := Lib.hid (same_app4 (J.out.alloc _) (J1.out.alloc _) hgrow); have e0c := (P1.out.cell hb0 (fun q => q) _).trans hcj; clear hown' hgrow J J1 e0)
              go_roundw
              case rel => exact ⟨j + 1, by omega, by first | rfl | go_num, by rw [HSj.out]; simp [kdB], by rw [HPg.out, List.flatMap_append]; first | simpa using OW.out | simpa using (OW.out.alloc (.cells #[.int .u8 72] 5)), by first | exact P1.out | exact P1.out.alloc _⟩
              case measure => simp [intOf]; omega
            · rw [if_neg (fun q => q.elim hr hjn)] at HSj
              have hjb : ((((j + 1 : Nat)) : Int) == (n : Int)) = false := beq_eq_false_iff_ne.2 (by omega)
              have hjb' : ((j : Int) + 1 == (n : Int)) = false := hjb
              go_wp2_with (at_builtin; refine wpList_append_own _ rfl (.tmp 24) (.tmp 30) 23 rfl w1.heap.size 34 i0 (.agg #[.int .i32 0, .int .i64 0, .int .i64 0, .slice none 0 0]) 4 48 Tryz.underlying23 I0.out Z0.out Z1.out Z2.out rfl (by decide) _ _ _ rfl (J1.out.alloc _) ⟨wr.heap.size, 0, none⟩ 1 1 (pgC (pgK 72)) rfl rfl (pg_new wr 72 34) (oneCells 72) (by unfold maxLen; omega) (by omega) (by simp only [World.size_alloc]; omega) ?_; intro v3 w3 hown' hgrow _; have OW := Lib.hid hown'; have P1 := Lib.hid (same_app4 (J.out.alloc _) (J1.out.alloc _) hgrow); have e0c := (P1.out.cell hb0 (fun q => q) _).trans hcj; clear hown' hgrow J J1 e0)
              go_roundw
              case rel => exact ⟨j + 1, by omega, by first | rfl | go_num, by rw [HSj.out]; simp [kdB], by rw [HPg.out, List.flatMap_append]; first | simpa using OW.out | simpa using (OW.out.alloc (.cells #[.int .u8 72] 5)), by first | exact P1.out | exact P1.out.alloc _⟩
              case measure => simp [intOf]; omega
        by_cases hx73 : x = 73
        · subst hx73
          have kc : ∀ w : World, (convert 40 9 (.slice (some ⟨w.heap.size, 0, none⟩) 1 1)).run Tryz.prog (w.alloc (.cells #[.int .u8 73] 5)) = .ok (.string ⟨#[73]⟩) (w.alloc (.cells #[.int .u8 73] 5)) := fun w => conv1 w 73
          have hu8 : IntKind.u8.wrap 73 = 73 := by decide
          have ha1 := app1 acc 73
          have ha2 := app1 (acc ++ [73]) 10
          by_cases hr : (j + 1) % k = 0
          · rw [if_pos (.inl hr)] at HSj
            have hz0 : ((j + 1 : Nat) : Int) % (k : Int) = 0 := by omega
            have hz : (((j + 1 : Nat) : Int) % (k : Int) == 0) = true := by rw [hz0]; rfl
            have hz' : (((j : Int) + 1) % (k : Int) == 0) = true := hz
            rw [hr] at hq hqi
            clear hr
            go_wp2_with (at_builtin; refine wpList_append_own _ rfl (.tmp 24) (.tmp 30) 23 rfl w1.heap.size 34 i0 (.agg #[.int .i32 0, .int .i64 0, .int .i64 0, .slice none 0 0]) 4 48 Tryz.underlying23 I0.out Z0.out Z1.out Z2.out rfl (by decide) _ _ _ rfl (J1.out.alloc _) ⟨wr.heap.size, 0, none⟩ 1 1 (pgC (pgK 73)) rfl rfl (pg_new wr 73 34) (oneCells 73) (by unfold maxLen; omega) (by omega) (by simp only [World.size_alloc]; omega) ?_; intro v3 w3 hown' hgrow _; have OW := Lib.hid hown'; have P1 := Lib.hid (same_app4 (J.out.alloc _) (J1.out.alloc _) hgrow); have e0c := (P1.out.cell hb0 (fun q => q) _).trans hcj; clear hown' hgrow J J1 e0)
            go_roundw
            case rel => exact ⟨j + 1, by omega, by first | rfl | go_num, by rw [HSj.out]; simp [kdB], by rw [HPg.out, List.flatMap_append]; first | simpa using OW.out | simpa using (OW.out.alloc (.cells #[.int .u8 73] 5)), by first | exact P1.out | exact P1.out.alloc _⟩
            case measure => simp [intOf]; omega
          · have hz : (((j + 1 : Nat) : Int) % (k : Int) == 0) = false := beq_eq_false_iff_ne.2 (by omega)
            have hz' : (((j : Int) + 1) % (k : Int) == 0) = false := hz
            by_cases hjn : j + 1 = n
            · rw [if_pos (.inr hjn)] at HSj
              have hjb : ((((j + 1 : Nat)) : Int) == (n : Int)) = true := by simp [hjn]
              rw [hjn] at hz
              go_wp2_with (at_builtin; refine wpList_append_own _ rfl (.tmp 24) (.tmp 30) 23 rfl w1.heap.size 34 i0 (.agg #[.int .i32 0, .int .i64 0, .int .i64 0, .slice none 0 0]) 4 48 Tryz.underlying23 I0.out Z0.out Z1.out Z2.out rfl (by decide) _ _ _ rfl (J1.out.alloc _) ⟨wr.heap.size, 0, none⟩ 1 1 (pgC (pgK 73)) rfl rfl (pg_new wr 73 34) (oneCells 73) (by unfold maxLen; omega) (by omega) (by simp only [World.size_alloc]; omega) ?_; intro v3 w3 hown' hgrow _; have OW := Lib.hid hown'; have P1 := Lib.hid (same_app4 (J.out.alloc _) (J1.out.alloc _) hgrow); have e0c := (P1.out.cell hb0 (fun q => q) _).trans hcj; clear hown' hgrow J J1 e0)
              go_roundw
              case rel => exact ⟨j + 1, by omega, by first | rfl | go_num, by rw [HSj.out]; simp [kdB], by rw [HPg.out, List.flatMap_append]; first | simpa using OW.out | simpa using (OW.out.alloc (.cells #[.int .u8 73] 5)), by first | exact P1.out | exact P1.out.alloc _⟩
              case measure => simp [intOf]; omega
            · rw [if_neg (fun q => q.elim hr hjn)] at HSj
              have hjb : ((((j + 1 : Nat)) : Int) == (n : Int)) = false := beq_eq_false_iff_ne.2 (by omega)
              have hjb' : ((j : Int) + 1 == (n : Int)) = false := hjb
              go_wp2_with (at_builtin; refine wpList_append_own _ rfl (.tmp 24) (.tmp 30) 23 rfl w1.heap.size 34 i0 (.agg #[.int .i32 0, .int .i64 0, .int .i64 0, .slice none 0 0]) 4 48 Tryz.underlying23 I0.out Z0.out Z1.out Z2.out rfl (by decide) _ _ _ rfl (J1.out.alloc _) ⟨wr.heap.size, 0, none⟩ 1 1 (pgC (pgK 73)) rfl rfl (pg_new wr 73 34) (oneCells 73) (by unfold maxLen; omega) (by omega) (by simp only [World.size_alloc]; omega) ?_; intro v3 w3 hown' hgrow _; have OW := Lib.hid hown'; have P1 := Lib.hid (same_app4 (J.out.alloc _) (J1.out.alloc _) hgrow); have e0c := (P1.out.cell hb0 (fun q => q) _).trans hcj; clear hown' hgrow J J1 e0)
              go_roundw
              case rel => exact ⟨j + 1, by omega, by first | rfl | go_num, by rw [HSj.out]; simp [kdB], by rw [HPg.out, List.flatMap_append]; first | simpa using OW.out | simpa using (OW.out.alloc (.cells #[.int .u8 73] 5)), by first | exact P1.out | exact P1.out.alloc _⟩
              case measure => simp [intOf]; omega
        by_cases hx77 : x = 77
        · subst hx77
          have kc : ∀ w : World, (convert 40 9 (.slice (some ⟨w.heap.size, 0, none⟩) 1 1)).run Tryz.prog (w.alloc (.cells #[.int .u8 77] 5)) = .ok (.string ⟨#[77]⟩) (w.alloc (.cells #[.int .u8 77] 5)) := fun w => conv1 w 77
          have hu8 : IntKind.u8.wrap 77 = 77 := by decide
          have ha1 := app1 acc 77
          have ha2 := app1 (acc ++ [77]) 10
          by_cases hr : (j + 1) % k = 0
          · rw [if_pos (.inl hr)] at HSj
            have hz0 : ((j + 1 : Nat) : Int) % (k : Int) = 0 := by omega
            have hz : (((j + 1 : Nat) : Int) % (k : Int) == 0) = true := by rw [hz0]; rfl
            have hz' : (((j : Int) + 1) % (k : Int) == 0) = true := hz
            rw [hr] at hq hqi
            clear hr
            go_wp2_with (at_builtin; refine wpList_append_own _ rfl (.tmp 24) (.tmp 30) 23 rfl w1.heap.size 34 i0 (.agg #[.int .i32 0, .int .i64 0, .int .i64 0, .slice none 0 0]) 4 48 Tryz.underlying23 I0.out Z0.out Z1.out Z2.out rfl (by decide) _ _ _ rfl (J1.out.alloc _) ⟨wr.heap.size, 0, none⟩ 1 1 (pgC (pgK 77)) rfl rfl (pg_new wr 77 34) (oneCells 77) (by unfold maxLen; omega) (by omega) (by simp only [World.size_alloc]; omega) ?_; intro v3 w3 hown' hgrow _; have OW := Lib.hid hown'; have P1 := Lib.hid (same_app4 (J.out.alloc _) (J1.out.alloc _) hgrow); have e0c := (P1.out.cell hb0 (fun q => q) _).trans hcj; clear hown' hgrow J J1 e0)
            go_roundw
            case rel => exact ⟨j + 1, by omega, by first | rfl | go_num, by rw [HSj.out]; simp [kdB], by rw [HPg.out, List.flatMap_append]; first | simpa using OW.out | simpa using (OW.out.alloc (.cells #[.int .u8 77] 5)), by first | exact P1.out | exact P1.out.alloc _⟩
            case measure => simp [intOf]; omega
          · have hz : (((j + 1 : Nat) : Int) % (k : Int) == 0) = false := beq_eq_false_iff_ne.2 (by omega)
            have hz' : (((j : Int) + 1) % (k : Int) == 0) = false := hz
            by_cases hjn : j + 1 = n
            · rw [if_pos (.inr hjn)] at HSj
              have hjb : ((((j + 1 : Nat)) : Int) == (n : Int)) = true := by simp [hjn]
              rw [hjn] at hz
              go_wp2_with (at_builtin; refine wpList_append_own _ rfl (.tmp 24) (.tmp 30) 23 rfl w1.heap.size 34 i0 (.agg #[.int .i32 0, .int .i64 0, .int .i64 0, .slice none 0 0]) 4 48 Tryz.underlying23 I0.out Z0.out Z1.out Z2.out rfl (by decide) _ _ _ rfl (J1.out.alloc _) ⟨wr.heap.size, 0, none⟩ 1 1 (pgC (pgK 77)) rfl rfl (pg_new wr 77 34) (oneCells 77) (by unfold maxLen; omega) (by omega) (by simp only [World.size_alloc]; omega) ?_; intro v3 w3 hown' hgrow _; have OW := Lib.hid hown'; have P1 := Lib.hid (same_app4 (J.out.alloc _) (J1.out.alloc _) hgrow); have e0c := (P1.out.cell hb0 (fun q => q) _).trans hcj; clear hown' hgrow J J1 e0)
              go_roundw
              case rel => exact ⟨j + 1, by omega, by first | rfl | go_num, by rw [HSj.out]; simp [kdB], by rw [HPg.out, List.flatMap_append]; first | simpa using OW.out | simpa using (OW.out.alloc (.cells #[.int .u8 77] 5)), by first | exact P1.out | exact P1.out.alloc _⟩
              case measure => simp [intOf]; omega
            · rw [if_neg (fun q => q.elim hr hjn)] at HSj
              have hjb : ((((j + 1 : Nat)) : Int) == (n : Int)) = false := beq_eq_false_iff_ne.2 (by omega)
              have hjb' : ((j : Int) + 1 == (n : Int)) = false := hjb
              go_wp2_with (at_builtin; refine wpList_append_own _ rfl (.tmp 24) (.tmp 30) 23 rfl w1.heap.size 34 i0 (.agg #[.int .i32 0, .int .i64 0, .int .i64 0, .slice none 0 0]) 4 48 Tryz.underlying23 I0.out Z0.out Z1.out Z2.out rfl (by decide) _ _ _ rfl (J1.out.alloc _) ⟨wr.heap.size, 0, none⟩ 1 1 (pgC (pgK 77)) rfl rfl (pg_new wr 77 34) (oneCells 77) (by unfold maxLen; omega) (by omega) (by simp only [World.size_alloc]; omega) ?_; intro v3 w3 hown' hgrow _; have OW := Lib.hid hown'; have P1 := Lib.hid (same_app4 (J.out.alloc _) (J1.out.alloc _) hgrow); have e0c := (P1.out.cell hb0 (fun q => q) _).trans hcj; clear hown' hgrow J J1 e0)
              go_roundw
              case rel => exact ⟨j + 1, by omega, by first | rfl | go_num, by rw [HSj.out]; simp [kdB], by rw [HPg.out, List.flatMap_append]; first | simpa using OW.out | simpa using (OW.out.alloc (.cells #[.int .u8 77] 5)), by first | exact P1.out | exact P1.out.alloc _⟩
              case measure => simp [intOf]; omega
        by_cases hx83 : x = 83
        · subst hx83
          have kc : ∀ w : World, (convert 40 9 (.slice (some ⟨w.heap.size, 0, none⟩) 1 1)).run Tryz.prog (w.alloc (.cells #[.int .u8 83] 5)) = .ok (.string ⟨#[83]⟩) (w.alloc (.cells #[.int .u8 83] 5)) := fun w => conv1 w 83
          have hu8 : IntKind.u8.wrap 83 = 83 := by decide
          have ha1 := app1 acc 83
          have ha2 := app1 (acc ++ [83]) 10
          by_cases hr : (j + 1) % k = 0
          · rw [if_pos (.inl hr)] at HSj
            have hz0 : ((j + 1 : Nat) : Int) % (k : Int) = 0 := by omega
            have hz : (((j + 1 : Nat) : Int) % (k : Int) == 0) = true := by rw [hz0]; rfl
            have hz' : (((j : Int) + 1) % (k : Int) == 0) = true := hz
            rw [hr] at hq hqi
            clear hr
            go_wp2_with (at_builtin; refine wpList_append_own _ rfl (.tmp 24) (.tmp 30) 23 rfl w1.heap.size 34 i0 (.agg #[.int .i32 0, .int .i64 0, .int .i64 0, .slice none 0 0]) 4 48 Tryz.underlying23 I0.out Z0.out Z1.out Z2.out rfl (by decide) _ _ _ rfl (J1.out.alloc _) ⟨wr.heap.size, 0, none⟩ 1 1 (pgC (pgK 83)) rfl rfl (pg_new wr 83 34) (oneCells 83) (by unfold maxLen; omega) (by omega) (by simp only [World.size_alloc]; omega) ?_; intro v3 w3 hown' hgrow _; have OW := Lib.hid hown'; have P1 := Lib.hid (same_app4 (J.out.alloc _) (J1.out.alloc _) hgrow); have e0c := (P1.out.cell hb0 (fun q => q) _).trans hcj; clear hown' hgrow J J1 e0)
            go_roundw
            case rel => exact ⟨j + 1, by omega, by first | rfl | go_num, by rw [HSj.out]; simp [kdB], by rw [HPg.out, List.flatMap_append]; first | simpa using OW.out | simpa using (OW.out.alloc (.cells #[.int .u8 83] 5)), by first | exact P1.out | exact P1.out.alloc _⟩
            case measure => simp [intOf]; omega
          · have hz : (((j + 1 : Nat) : Int) % (k : Int) == 0) = false := beq_eq_false_iff_ne.2 (by omega)
            have hz' : (((j : Int) + 1) % (k : Int) == 0) = false := hz
            by_cases hjn : j + 1 = n
            · rw [if_pos (.inr hjn)] at HSj
              have hjb : ((((j + 1 : Nat)) : Int) == (n : Int)) = true := by simp [hjn]
              rw [hjn] at hz
              go_wp2_with (at_builtin; refine wpList_append_own _ rfl (.tmp 24) (.tmp 30) 23 rfl w1.heap.size 34 i0 (.agg #[.int .i32 0, .int .i64 0, .int .i64 0, .slice none 0 0]) 4 48 Tryz.underlying23 I0.out Z0.out Z1.out Z2.out rfl (by decide) _ _ _ rfl (J1.out.alloc _) ⟨wr.heap.size, 0, none⟩ 1 1 (pgC (pgK 83)) rfl rfl (pg_new wr 83 34) (oneCells 83) (by unfold maxLen; omega) (by omega) (by simp only [World.size_alloc]; omega) ?_; intro v3 w3 hown' hgrow _; have OW := Lib.hid hown'; have P1 := Lib.hid (same_app4 (J.out.alloc _) (J1.out.alloc _) hgrow); have e0c := (P1.out.cell hb0 (fun q => q) _).trans hcj; clear hown' hgrow J J1 e0)
              go_roundw
              case rel => exact ⟨j + 1, by omega, by first | rfl | go_num, by rw [HSj.out]; simp [kdB], by rw [HPg.out, List.flatMap_append]; first | simpa using OW.out | simpa using (OW.out.alloc (.cells #[.int .u8 83] 5)), by first | exact P1.out | exact P1.out.alloc _⟩
              case measure => simp [intOf]; omega
            · rw [if_neg (fun q => q.elim hr hjn)] at HSj
              have hjb : ((((j + 1 : Nat)) : Int) == (n : Int)) = false := beq_eq_false_iff_ne.2 (by omega)
              have hjb' : ((j : Int) + 1 == (n : Int)) = false := hjb
              go_wp2_with (at_builtin; refine wpList_append_own _ rfl (.tmp 24) (.tmp 30) 23 rfl w1.heap.size 34 i0 (.agg #[.int .i32 0, .int .i64 0, .int .i64 0, .slice none 0 0]) 4 48 Tryz.underlying23 I0.out Z0.out Z1.out Z2.out rfl (by decide) _ _ _ rfl (J1.out.alloc _) ⟨wr.heap.size, 0, none⟩ 1 1 (pgC (pgK 83)) rfl rfl (pg_new wr 83 34) (oneCells 83) (by unfold maxLen; omega) (by omega) (by simp only [World.size_alloc]; omega) ?_; intro v3 w3 hown' hgrow _; have OW := Lib.hid hown'; have P1 := Lib.hid (same_app4 (J.out.alloc _) (J1.out.alloc _) hgrow); have e0c := (P1.out.cell hb0 (fun q => q) _).trans hcj; clear hown' hgrow J J1 e0)
              go_roundw
              case rel => exact ⟨j + 1, by omega, by first | rfl | go_num, by rw [HSj.out]; simp [kdB], by rw [HPg.out, List.flatMap_append]; first | simpa using OW.out | simpa using (OW.out.alloc (.cells #[.int .u8 83] 5)), by first | exact P1.out | exact P1.out.alloc _⟩
              case measure => simp [intOf]; omega
        by_cases hx46 : x = 46
        · subst hx46
          have kc : ∀ w : World, (convert 40 9 (.slice (some ⟨w.heap.size, 0, none⟩) 1 1)).run Tryz.prog (w.alloc (.cells #[.int .u8 46] 5)) = .ok (.string ⟨#[46]⟩) (w.alloc (.cells #[.int .u8 46] 5)) := fun w => conv1 w 46
          have hu8 : IntKind.u8.wrap 46 = 46 := by decide
          have ha1 := app1 acc 46
          have ha2 := app1 (acc ++ [46]) 10
          by_cases hr : (j + 1) % k = 0
          · rw [if_pos (.inl hr)] at HSj
            have hz0 : ((j + 1 : Nat) : Int) % (k : Int) = 0 := by omega
            have hz : (((j + 1 : Nat) : Int) % (k : Int) == 0) = true := by rw [hz0]; rfl
            have hz' : (((j : Int) + 1) % (k : Int) == 0) = true := hz
            rw [hr] at hq hqi
            clear hr
            go_wp2_with (at_builtin; refine wpList_append_own _ rfl (.tmp 24) (.tmp 30) 23 rfl w1.heap.size 34 i0 (.agg #[.int .i32 0, .int .i64 0, .int .i64 0, .slice none 0 0]) 4 48 Tryz.underlying23 I0.out Z0.out Z1.out Z2.out rfl (by decide) _ _ _ rfl (J1.out.alloc _) ⟨wr.heap.size, 0, none⟩ 1 1 (pgC (pgK 46)) rfl rfl (pg_new wr 46 34) (oneCells 46) (by unfold maxLen; omega) (by omega) (by simp only [World.size_alloc]; omega) ?_; intro v3 w3 hown' hgrow _; have OW := Lib.hid hown'; have P1 := Lib.hid (same_app4 (J.out.alloc _) (J1.out.alloc _) hgrow); have e0c := (P1.out.cell hb0 (fun q => q) _).trans hcj; clear hown' hgrow J J1 e0)
            go_roundw
            case rel => exact ⟨j + 1, by omega, by first | rfl | go_num, by rw [HSj.out]; simp [kdB], by rw [HPg.out, List.flatMap_append]; first | simpa using OW.out | simpa using (OW.out.alloc (.cells #[.int .u8 46] 5)), by first | exact P1.out | exact P1.out.alloc _⟩
            case measure => simp [intOf]; omega
          · have hz : (((j + 1 : Nat) : Int) % (k : Int) == 0) = false := beq_eq_false_iff_ne.2 (by omega)
            have hz' : (((j : Int) + 1) % (k : Int) == 0) = false := hz
            by_cases hjn : j + 1 = n
            · rw [if_pos (.inr hjn)] at HSj
              have hjb : ((((j + 1 : Nat)) : Int) == (n : Int)) = true := by simp [hjn]
              rw [hjn] at hz
              go_wp2_with (at_builtin; refine wpList_append_own _ rfl (.tmp 24) (.tmp 30) 23 rfl w1.heap.size 34 i0 (.agg #[.int .i32 0, .int .i64 0, .int .i64 0, .slice none 0 0]) 4 48 Tryz.underlying23 I0.out Z0.out Z1.out Z2.out rfl (by decide) _ _ _ rfl (J1.out.alloc _) ⟨wr.heap.size, 0, none⟩ 1 1 (pgC (pgK 46)) rfl rfl (pg_new wr 46 34) (oneCells 46) (by unfold maxLen; omega) (by omega) (by simp only [World.size_alloc]; omega) ?_; intro v3 w3 hown' hgrow _; have OW := Lib.hid hown'; have P1 := Lib.hid (same_app4 (J.out.alloc _) (J1.out.alloc _) hgrow); have e0c := (P1.out.cell hb0 (fun q => q) _).trans hcj; clear hown' hgrow J J1 e0)
              go_roundw
              case rel => exact ⟨j + 1, by omega, by first | rfl | go_num, by rw [HSj.out]; simp [kdB], by rw [HPg.out, List.flatMap_append]; first | simpa using OW.out | simpa using (OW.out.alloc (.cells #[.int .u8 46] 5)), by first | exact P1.out | exact P1.out.alloc _⟩
              case measure => simp [intOf]; omega
            · rw [if_neg (fun q => q.elim hr hjn)] at HSj
              have hjb : ((((j + 1 : Nat)) : Int) == (n : Int)) = false := beq_eq_false_iff_ne.2 (by omega)
              have hjb' : ((j : Int) + 1 == (n : Int)) = false := hjb
              go_wp2_with (at_builtin; refine wpList_append_own _ rfl (.tmp 24) (.tmp 30) 23 rfl w1.heap.size 34 i0 (.agg #[.int .i32 0, .int .i64 0, .int .i64 0, .slice none 0 0]) 4 48 Tryz.underlying23 I0.out Z0.out Z1.out Z2.out rfl (by decide) _ _ _ rfl (J1.out.alloc _) ⟨wr.heap.size, 0, none⟩ 1 1 (pgC (pgK 46)) rfl rfl (pg_new wr 46 34) (oneCells 46) (by unfold maxLen; omega) (by omega) (by simp only [World.size_alloc]; omega) ?_; intro v3 w3 hown' hgrow _; have OW := Lib.hid hown'; have P1 := Lib.hid (same_app4 (J.out.alloc _) (J1.out.alloc _) hgrow); have e0c := (P1.out.cell hb0 (fun q => q) _).trans hcj; clear hown' hgrow J J1 e0)
              go_roundw
              case rel => exact ⟨j + 1, by omega, by first | rfl | go_num, by rw [HSj.out]; simp [kdB], by rw [HPg.out, List.flatMap_append]; first | simpa using OW.out | simpa using (OW.out.alloc (.cells #[.int .u8 46] 5)), by first | exact P1.out | exact P1.out.alloc _⟩
              case measure => simp [intOf]; omega
        have ex72 : (x == 72) = false := beq_eq_false_iff_ne.2 hx72
        have ex73 : (x == 73) = false := beq_eq_false_iff_ne.2 hx73
        have ex77 : (x == 77) = false := beq_eq_false_iff_ne.2 hx77
        have ex83 : (x == 83) = false := beq_eq_false_iff_ne.2 hx83
        have ex46 : (x == 46) = false := beq_eq_false_iff_ne.2 hx46
        rw [show kdB x = 63 by unfold kdB; rw [if_neg hx72, if_neg hx73, if_neg hx77, if_neg hx83, if_neg hx46]] at HSj
        have ha1 := app1 acc 63
        have ha2 := app1 (acc ++ [63]) 10
        by_cases hr : (j + 1) % k = 0
        · rw [if_pos (.inl hr)] at HSj
          have hz0 : ((j + 1 : Nat) : Int) % (k : Int) = 0 := by omega
          have hz : (((j + 1 : Nat) : Int) % (k : Int) == 0) = true := by rw [hz0]; rfl
          have hz' : (((j : Int) + 1) % (k : Int) == 0) = true := hz
          rw [hr] at hq hqi
          clear hr
          go_wp2_with (at_builtin; refine wpList_append_own _ rfl (.tmp 24) (.tmp 30) 23 rfl w1.heap.size 34 i0 (.agg #[.int .i32 0, .int .i64 0, .int .i64 0, .slice none 0 0]) 4 48 Tryz.underlying23 I0.out Z0.out Z1.out Z2.out rfl (by decide) _ _ _ rfl (J1.out.alloc _) ⟨wr.heap.size, 0, none⟩ 1 1 (pgC (pgK x)) rfl rfl (pg_new wr x 34) (oneCells x) (by unfold maxLen; omega) (by omega) (by simp only [World.size_alloc]; omega) ?_; intro v3 w3 hown' hgrow _; have OW := Lib.hid hown'; have P1 := Lib.hid (same_app4 (J.out.alloc _) (J1.out.alloc _) hgrow); have e0c := (P1.out.cell hb0 (fun q => q) _).trans hcj; clear hown' hgrow J J1 e0)
          go_roundw
          case rel => exact ⟨j + 1, by omega, by first | rfl | go_num, by rw [HSj.out]; simp [kdB], by rw [HPg.out, List.flatMap_append]; first | simpa using OW.out | simpa using (OW.out.alloc (.cells #[.int .u8 x] 5)), by first | exact P1.out | exact P1.out.alloc _⟩
          case measure => simp [intOf]; omega
        · have hz : (((j + 1 : Nat) : Int) % (k : Int) == 0) = false := beq_eq_false_iff_ne.2 (by omega)
          have hz' : (((j : Int) + 1) % (k : Int) == 0) = false := hz
          by_cases hjn : j + 1 = n
          · rw [if_pos (.inr hjn)] at HSj
            have hjb : ((((j + 1 : Nat)) : Int) == (n : Int)) = true := by simp [hjn]
            rw [hjn] at hz
            go_wp2_with (at_builtin; refine wpList_append_own _ rfl (.tmp 24) (.tmp 30) 23 rfl w1.heap.size 34 i0 (.agg #[.int .i32 0, .int .i64 0, .int .i64 0, .slice none 0 0]) 4 48 Tryz.underlying23 I0.out Z0.out Z1.out Z2.out rfl (by decide) _ _ _ rfl (J1.out.alloc _) ⟨wr.heap.size, 0, none⟩ 1 1 (pgC (pgK x)) rfl rfl (pg_new wr x 34) (oneCells x) (by unfold maxLen; omega) (by omega) (by simp only [World.size_alloc]; omega) ?_; intro v3 w3 hown' hgrow _; have OW := Lib.hid hown'; have P1 := Lib.hid (same_app4 (J.out.alloc _) (J1.out.alloc _) hgrow); have e0c := (P1.out.cell hb0 (fun q => q) _).trans hcj; clear hown' hgrow J J1 e0)
            go_roundw
            case rel => exact ⟨j + 1, by omega, by first | rfl | go_num, by rw [HSj.out]; simp [kdB], by rw [HPg.out, List.flatMap_append]; first | simpa using OW.out | simpa using (OW.out.alloc (.cells #[.int .u8 x] 5)), by first | exact P1.out | exact P1.out.alloc _⟩
            case measure => simp [intOf]; omega
          · rw [if_neg (fun q => q.elim hr hjn)] at HSj
            have hjb : ((((j + 1 : Nat)) : Int) == (n : Int)) = false := beq_eq_false_iff_ne.2 (by omega)
            have hjb' : ((j : Int) + 1 == (n : Int)) = false := hjb
            go_wp2_with (at_builtin; refine wpList_append_own _ rfl (.tmp 24) (.tmp 30) 23 rfl w1.heap.size 34 i0 (.agg #[.int .i32 0, .int .i64 0, .int .i64 0, .slice none 0 0]) 4 48 Tryz.underlying23 I0.out Z0.out Z1.out Z2.out rfl (by decide) _ _ _ rfl (J1.out.alloc _) ⟨wr.heap.size, 0, none⟩ 1 1 (pgC (pgK x)) rfl rfl (pg_new wr x 34) (oneCells x) (by unfold maxLen; omega) (by omega) (by simp only [World.size_alloc]; omega) ?_; intro v3 w3 hown' hgrow _; have OW := Lib.hid hown'; have P1 := Lib.hid (same_app4 (J.out.alloc _) (J1.out.alloc _) hgrow); have e0c := (P1.out.cell hb0 (fun q => q) _).trans hcj; clear hown' hgrow J J1 e0)
            go_roundw
            case rel => exact ⟨j + 1, by omega, by first | rfl | go_num, by rw [HSj.out]; simp [kdB], by rw [HPg.out, List.flatMap_append]; first | simpa using OW.out | simpa using (OW.out.alloc (.cells #[.int .u8 x] 5)), by first | exact P1.out | exact P1.out.alloc _⟩
            case measure => simp [intOf]; omega
      · obtain rfl : n = j := by omega
        have hpk := pgsK_k K
        rw [HN.out] at hpk
        have hpl : (pgsK K n).length = n := by have := congrArg List.length hpk; rw [List.length_map] at this; rw [this]; exact HN.out
        have hown := J1.out
        have hpo := pgs_own (L := pgsK K n) (by rw [hpl]; exact hown)
        rw [hpl] at hpo
        obtain ⟨al, cl, rfl, hpg⟩ := hpo
        have HT := Lib.hid (text_pg al cl (pgsK K n) row k hk (by rw [hpl]; omega) wr hpg)
        rw [hpl, hpk] at HT
        unfold strV at HT
        have hXX : (txP k K n == txP k K n) = true := by simp
        clear hown hpg J1
        generalize txP k K n = acc at *
        go_wp2_with fail
        refine HT.out.mono ?_
        rintro e w3 ⟨rfl, M⟩
        have K3 := Lib.hid (K1.out.same (J.out.same M))
        clear M HT J K1
        go_wp2
        exact HR.out _ _ ⟨rfl, K3.out⟩
  · have d1 : (n : Int) > 100 := by omega
    have d2 : decide ((n : Int) > 100) = true := decide_eq_true d1
    have d3 : decide ((100 : Int) < (n : Int)) = true := decide_eq_true d1
    have d4 : decide (100 < n) = true := decide_eq_true (by omega)
    go_enter Tryz.func4, Tryz.ntmps4
    go_wp2_with fail
    refine (awake_any w).mono ?_
    rintro e w1 ⟨rfl, M⟩
    go_wp2
    exact HR.out _ _ ⟨rfl, M⟩
end Go.Proofs.YtjkndfenniongaaGreatDoor
