import Derived.Test.YthkcdoneghcglaaDoorScrT
set_option linter.unusedSimpArgs false
set_option linter.unusedVariables false
/- scrub.Parse. -/
namespace Go.Proofs.YthkcdoneghcglaaDoor
open Go Go.RowKit
def lenOf : Value → Nat
  | .string s => s.size
  | _ => 0
/-- What Parse hands back. -/
def PaS (o : Option (List Sm)) (e : Ending) (w' : World) : Prop := match o with
  | some L => ∃ a c, e = .returned (.tuple #[.slice a L.length c, .int .i64 0]) ∧ Sms w' a L
  | none => e = .returned (.tuple #[.slice none 0 0, .int .i64 3])
theorem pars_nil (f : List UInt8 → Option Sm) (k : Nat) : pars f k [] = some [] := by cases k <;> rfl
theorem pars_end (f : List UInt8 → Option Sm) (k : Nat) {s : List UInt8} (h : s ≠ []) (hk : s.length ≤ k) (hn : nl s = none) : pars f k s = none := by
  cases k with
  | zero => exfalso; cases s with | nil => exact h rfl | cons c r => simp at hk
  | succ k => rw [pars, if_neg h, hn]
theorem pars_bad (f : List UInt8 → Option Sm) (k : Nat) {s a r : List UInt8} (hk : s.length ≤ k) (hn : nl s = some (a, r)) (hf : f a = none) : pars f k s = none := by
  have hs : s ≠ [] := by intro e; subst e; cases hn
  cases k with
  | zero => exfalso; cases s with | nil => exact hs rfl | cons c r => simp at hk
  | succ k => rw [pars, if_neg hs, hn]; dsimp only; rw [hf]
theorem pars_step (f : List UInt8 → Option Sm) (k : Nat) {s a r : List UInt8} {x : Sm} (hk : s.length ≤ k + 1) (hn : nl s = some (a, r)) (hf : f a = some x) : pars f (k + 1) s = (pars f k r).map (x :: ·) := by
  have hs : s ≠ [] := by intro e; subst e; cases hn
  rw [pars, if_neg hs, hn]; dsimp only; rw [hf]
theorem nl_len {s a r : List UInt8} (hn : nl s = some (a, r)) : a.length + r.length + 1 = s.length := by
  rw [nl_some hn]; simp; omega
theorem new4' (w : World) (x : Sm) (t : TypeId) (o : Obj) : ∀ j u, (smC x)[j]? = some u → ((w.alloc o).alloc (.cells #[.int .i64 x.c, .int .i64 x.t, .int .i64 x.s, .int .u32 (x.h : Int)] t)).cell? (Addr.add ⟨w.heap.size + 1, 0, none⟩ j) = some u := by
  have h := new4 (w.alloc o) x t
  rw [World.size_alloc] at h
  exact h
set_option maxRecDepth 10000 in
set_option maxHeartbeats 4000000 in
theorem parse_any (S : List UInt8) (hS : S.length ≤ 100000) (w : World) (hL : LibOK w) : Calls Tryd.prog 15 #[strV S] w fun e w' => PaS (parseS S) e w' ∧ Same w w' := by
  refine opq fun R HR => ?_
  have HL := Lib.hid hL
  clear hL
  unfold parseS at HR
  obtain ⟨i0, hi, hz0, hz1, hz2⟩ := info_parts info46
  have HI0 := Lib.hid hi
  have HZ0 := Lib.hid hz0
  have HZ1 := Lib.hid hz1
  have HZ2 := Lib.hid hz2
  clear hi hz0 hz1 hz2
  unfold strV
  go_enter Tryd.func15, Tryd.ntmps15
  go_wp2_with fail
  go_loopw [0, 4] (fun v o wr => ∃ (s : List UInt8) (k : Nat) (L : List Sm), v = .string ⟨s.toArray⟩ ∧ s.length ≤ k ∧ L.length + s.length ≤ S.length ∧ (pars pLine k s).map (L ++ ·) = pars pLine S.length S ∧ wr.ownsRow w.heap.size 46 4 o L.length (L.flatMap smC) ∧ Same w wr) (fun v _ _ => lenOf v)
  case atStart => exact ⟨S, S.length, [], rfl, Nat.le_refl _, by simp, by simp, World.ownsRow_nil _ _ _ _, Mod.refl _ _⟩
  case round =>
    obtain ⟨s, k, L, rfl, hsk, hLs, hp, hown, hM⟩ := hrel
    have J1 := Lib.hid hown
    have J2 := Lib.hid hM
    have hsz : w.heap.size ≤ wr.heap.size := hM.size
    have hbs := bytes_size s
    have HP := Lib.hid hp
    clear hown hM hp
    by_cases hs : s = []
    · subst hs
      rw [pars_nil] at HP
      have hp := HP.out
      simp only [Option.map_some, List.append_nil] at hp
      rw [← hp] at HR
      obtain ⟨a', c', rfl, hsms⟩ := sms_own J1.out
      have J3 := Lib.hid hsms
      have HG := Lib.hid (isGood_any a' c' L wr (by simp at hLs; omega) hsms)
      clear hsms hp HP J1
      go_wp2_with fail
      refine HG.out.mono ?_
      rintro e w2 ⟨rfl, M2⟩
      have J4 := Lib.hid (J2.out.same M2)
      have J5 := Lib.hid (J3.out.same M2)
      clear M2 HG
      cases hg : goodL L with
      | true =>
        have hf : fin (some L) = some L := by unfold fin; dsimp only; rw [if_pos hg]
        rw [hf] at HR
        clear hg hf
        go_wp2
        exact HR.out _ _ ⟨⟨_, _, rfl, J5.out⟩, J4.out⟩
      | false =>
        have hf : fin (some L) = none := by unfold fin; dsimp only; rw [if_neg (by rw [hg]; decide)]
        rw [hf] at HR
        clear hg hf
        go_wp2
        exact HR.out _ _ ⟨rfl, J4.out⟩
    · have hemp : s.isEmpty = false := by cases s; exact absurd rfl hs; rfl
      have HCut := Lib.hid (cut_any s (by omega) wr (HL.out.same J2.out))
      unfold strV at HCut
      cases hn : nl s with
      | none =>
        rw [hn] at HCut
        dsimp only at HCut
        have hnone := HP.out
        rw [pars_end pLine k hs hsk hn] at hnone
        simp only [Option.map_none] at hnone
        rw [← hnone] at HR
        clear hnone HP hn
        go_wp2_with fail
        refine HCut.out.mono ?_
        rintro e w2 ⟨rfl, M2⟩
        have J4 := Lib.hid (J2.out.same M2)
        have HLi := Lib.hid (line_any s (by omega) w2 (HL.out.same J4.out))
        clear M2 HCut
        unfold strV at HLi
        cases hp : pLine s with
        | none =>
          rw [hp] at HLi
          clear hp
          go_wp2_with fail
          refine HLi.out.mono ?_
          rintro e w3 ⟨rfl, M3⟩
          have J6 := Lib.hid (J4.out.same M3)
          clear M3 HLi
          go_wp2
          exact HR.out _ _ ⟨rfl, J6.out.alloc _⟩
        | some x =>
          rw [hp] at HLi
          clear hp
          go_wp2_with fail
          refine HLi.out.mono ?_
          rintro e w3 ⟨rfl, M3⟩
          have J6 := Lib.hid (J4.out.same M3)
          clear M3 HLi
          go_wp2
          exact HR.out _ _ ⟨rfl, J6.out.alloc _⟩
      | some q =>
        obtain ⟨a, r⟩ := q
        rw [hn] at HCut
        dsimp only at HCut
        have hlen := nl_len hn
        have HN := Lib.hid hn
        clear hn
        go_wp2_with fail
        refine HCut.out.mono ?_
        rintro e w2 ⟨rfl, M2⟩
        have J4 := Lib.hid (J2.out.same M2)
        have J5 := Lib.hid (owns_same J1.out M2)
        have HLi := Lib.hid (line_any a (by omega) w2 (HL.out.same J4.out))
        clear M2 HCut J1 J2
        unfold strV at HLi
        cases hp : pLine a with
        | none =>
          rw [hp] at HLi
          have hnone := HP.out
          rw [pars_bad pLine k hsk HN.out hp] at hnone
          simp only [Option.map_none] at hnone
          rw [← hnone] at HR
          clear hp hnone
          go_wp2_with fail
          refine HLi.out.mono ?_
          rintro e w3 ⟨rfl, M3⟩
          have J6 := Lib.hid (J4.out.same M3)
          clear M3 HLi
          go_wp2
          exact HR.out _ _ ⟨rfl, J6.out.alloc _⟩
        | some x =>
          rw [hp] at HLi
          obtain ⟨k, rfl⟩ : ∃ m, k = m + 1 := ⟨k - 1, by omega⟩
          have hst := HP.out
          rw [pars_step pLine k hsk HN.out hp, Option.map_map] at hst
          have HS := Lib.hid (show (pars pLine k r).map ((L ++ [x]) ++ ·) = pars pLine S.length S by
            rw [← hst]; congr 1; funext z; simp)
          clear hp hst HP
          go_wp2_with fail
          refine HLi.out.mono ?_
          rintro e w3 ⟨rfl, M3⟩
          have J6 := Lib.hid (J4.out.same M3)
          have J7 := Lib.hid (owns_same J5.out M3)
          clear M3 HLi J4 J5
          obtain ⟨xc, xt, xs, xh⟩ := x
          have hwz : w.heap.size ≤ w3.heap.size := J6.out.size
          go_wp2_with (at_builtin; refine wpList_append_lies _ rfl (.tmp 29) (.tmp 31) 22 rfl w.heap.size 46 i0 (.agg #[.int .i64 0, .int .i64 0, .int .i64 0, .int .u32 0]) 4 32 Tryd.underlying22 HI0.out HZ0.out HZ1.out HZ2.out rfl (by decide) _ _ _ rfl ((J7.out.alloc _).alloc _) ⟨w3.heap.size + 1, 0, none⟩ 1 1 (smC ⟨xc, xt, xs, xh⟩) rfl rfl (new4' w3 ⟨xc, xt, xs, xh⟩ _ _) (fun u hu => (by simp at hu; rcases hu with rfl | rfl | rfl | rfl <;> rfl)) (by decide) (by unfold maxLen; omega) (by omega) (by simp only [World.size_alloc]; omega) (w3.heap.size + 2) (by simp) ?_; intro g cp w6 hown' hgrow hat hgl)
          have P1 := Lib.hid (same_append (J6.out.alloc (.cells #[.int .i64 xc, .int .i64 xt, .int .i64 xs, .int .u32 (xh : Int)] 46)) (J7.out.alloc _) hgrow)
          have P2 := Lib.hid hown'
          clear hown' hgrow hat
          go_roundw
          case rel => exact ⟨r, k, L ++ [⟨xc, xt, xs, xh⟩], rfl, by omega, by rw [List.length_append]; simp; omega, HS.out, by rw [List.length_append, List.flatMap_append]; exact P2.out, P1.out⟩
          case measure => simp [lenOf, bytes_size]; omega
end Go.Proofs.YthkcdoneghcglaaDoor
