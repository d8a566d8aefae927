import Derived.Test.YteommjbbjdbhkaaRankR
set_option linter.unusedSimpArgs false
set_option linter.unusedVariables false
namespace Go.Proofs.Yteommjbbjdbhkaa
open Go Go.RowKit Go.ChangeShapes Go.WideShapes
theorem Asc.rise {L : List It} (h : Asc L L.length) : Rise L := by
  intro x hx
  obtain ⟨i, hi, rfl⟩ := List.mem_iff_getElem.1 hx
  exact (h i _ hi (List.getElem?_eq_getElem hi)).1
theorem waits_step {L : List It} {k : Nat} {x : It} (hx : L[k]? = some x) : waitsC (L.take (k + 1)) = (waitsC (L.take k) || (x.p && !x.b && x.t == 0)) := by
  unfold waitsC
  rw [List.take_add_one, hx, List.any_append]
  simp
/-- What the search meets at the item that was named. -/
def Mover (x : It) (ws : Bool) (room t : Int) : Prop := x.b = false ∧ ((t = 1 ∧ 0 < room ∧ x.t = 0 ∧ (x.p = true ∨ (ws = false ∧ 2 ≤ lev x.h))) ∨ (t = 0 ∧ room ≤ 0 ∧ x.t = 1 ∧ x.p = false))
set_option maxRecDepth 4000 in
set_option maxHeartbeats 8000000 in
theorem rankPinned_walk (a : Option Addr) (cap : Nat) (L : List It) (room pick : Int) (w : World) (hm : L.length ≤ 9223372036854775807) (hI : Its w a L) (hw : Wf L) :
    Calls Try.prog 7 #[.slice a L.length cap, .int .i64 room, .int .i64 pick] w fun e w' => e = .returned (.bool true) ∧ Below w.heap.size w w' := by
  refine opq fun R HR => ?_
  have HA := Lib.hid (awake_any w)
  by_cases h40 : 40 < L.length
  · clear hI hw
    generalize L.length = n at *
    go_enter Try.func7, Try.ntmps7
    go_wp2_with fail
    refine HA.out.mono ?_
    rintro e w1 ⟨rfl, M1⟩
    have J1 := Lib.hid M1
    clear M1 HA
    go_wp2
    exact HR.out _ _ ⟨rfl, J1.out.below⟩
  · have hl : L.length ≤ 1000 := by omega
    have HF := Lib.hid (fun (wz : World) (M : Same w wz) => form_any a cap L wz hl (hI.same M))
    have HW1 := Lib.hid (fun (wz : World) (M : Same w wz) => wants_any a cap L room pick wz hl (hI.same M) hw)
    have HSp := Lib.hid (fun (h : Rise L) => wants_spec h room pick)
    have HI := Lib.hid hI
    have HV := Lib.hid hw
    generalize wantsC L room pick = ww at *
    obtain ⟨c, t, is⟩ := ww
    clear hI hw
    obtain ⟨n, hn⟩ : ∃ n, L.length = n := ⟨_, rfl⟩
    have HN := Lib.hid hn
    rw [hn] at HF HW1 hl h40 ⊢
    clear hn
    have h40' : ¬ (40 : Int) < (n : Int) := by omega
    clear h40
    go_enter Try.func7, Try.ntmps7
    go_wp2_with fail
    refine HA.out.mono ?_
    rintro e w1 ⟨rfl, M1⟩
    have J1 := Lib.hid M1
    clear M1 HA
    go_wp2_with fail
    refine (HF.out _ J1.out).mono ?_
    rintro e w2 ⟨v, b, rfl, M2, hb⟩
    have J2 := Lib.hid (J1.out.same M2)
    have HB := Lib.hid hb
    clear M2 hb J1 HF
    cases b
    · go_wp2
      exact HR.out _ _ ⟨rfl, (show Same w _ from J2.out).below⟩
    · obtain ⟨hasc, a', c', rfl, hi⟩ := HB.out rfl
      have HAs := Lib.hid hasc
      have hsp := Lib.hid (HSp.out (Asc.rise (by rw [HN.out]; exact hasc)))
      clear hi HB HSp hasc
      go_wp2_with fail
      refine (HW1.out _ J2.out).mono ?_
      rintro e w3 ⟨rfl, M3⟩
      have J3 := Lib.hid (J2.out.same M3)
      clear M3 J2 HW1
      go_wp2_with fail
      go_loopw [13, 12] (fun i v wr => ∃ k : Nat, k ≤ n ∧ i = .int .i64 k ∧ v = .bool (waitsC (L.take k)) ∧ wr = w3) (fun i _ _ => n - (intOf i).toNat)
      case atStart => exact ⟨0, by omega, rfl, rfl, rfl⟩
      case round =>
        obtain ⟨k, hk, rfl, rfl, rfl⟩ := hrel
        by_cases hlt : k < n
        · obtain ⟨b1, o1, rfl, hb1, hc1⟩ := (HI.out.same J3.out) (by rw [HN.out]; omega)
          have hkL : k < L.length := by rw [HN.out]; exact hlt
          obtain ⟨x, hx⟩ : ∃ x, L[k]? = some x := ⟨_, List.getElem?_eq_getElem hkL⟩
          obtain ⟨e0, e1, e2, e3, e4⟩ := hc1 k x hx
          have HT := Lib.hid (waits_step hx)
          clear hc1 hx hkL e0 e1
          obtain ⟨xc, xh, xt, xp, xb⟩ := x
          generalize hws : waitsC (L.take k) = ws at *
          clear hws
          rcases ws with _ | _
          · rcases xp with _ | _
            · have HS := Lib.hid (HT.out.trans (show _ = false from rfl))
              clear HT
              go_wp2
              go_roundw
              case rel => exact ⟨k + 1, by omega, by go_num, by rw [HS.out], by trivial⟩
              case measure => simp [intOf]; omega
            · rcases xb with _ | _
              · have HS := Lib.hid (HT.out.trans (show _ = (xt == 0) from by simp))
                clear HT
                go_wp2
                go_roundw
                case rel => exact ⟨k + 1, by omega, by go_num, by rw [HS.out], by trivial⟩
                case measure => simp [intOf]; omega
              · have HS := Lib.hid (HT.out.trans (show _ = false from rfl))
                clear HT
                go_wp2
                go_roundw
                case rel => exact ⟨k + 1, by omega, by go_num, by rw [HS.out], by trivial⟩
                case measure => simp [intOf]; omega
          · have HS := Lib.hid (HT.out.trans (show _ = true from rfl))
            clear HT
            go_wp2
            go_roundw
            case rel => exact ⟨k + 1, by omega, by go_num, by rw [HS.out], by trivial⟩
            case measure => simp [intOf]; omega
        · obtain rfl : k = n := by omega
          have hall : L.take k = L := List.take_of_length_le (by rw [HN.out]; exact Nat.le_refl _)
          rw [hall]
          clear hall
          rcases hsp.out with ⟨h1, h2⟩ | hmv
          · simp only [Prod.mk.injEq] at h1
            obtain ⟨rfl, rfl, rfl⟩ := h1
            generalize waitsC L = ws at *
            rcases ws with _ | _
            · go_wp2
              exact HR.out _ _ ⟨by first | rfl | simp, (show Same w _ from J3.out).below⟩
            · have hr : ¬ 0 < room := fun q => h2 ⟨rfl, q⟩
              go_wp2
              exact HR.out _ _ ⟨by first | rfl | simp, (show Same w _ from J3.out).below⟩
          · have hmv2 : ∃ x ∈ L, c = x.c ∧ is = true ∧ Mover x (waitsC L) room t := by
              rcases hmv with ⟨x, hx, he, h1, h2, h3, h4⟩ | ⟨x, hx, he, h1, h2, h3, h4⟩
              · simp only [Prod.mk.injEq] at he
                exact ⟨x, hx, he.1, he.2.2, h2, .inl ⟨he.2.1, h1, h3, h4⟩⟩
              · simp only [Prod.mk.injEq] at he
                exact ⟨x, hx, he.1, he.2.2, h2, .inr ⟨he.2.1, h1, h3, h4⟩⟩
            clear hmv
            obtain ⟨x, hx, rfl, rfl, hmv⟩ := hmv2
            have HXW := HV.out x hx
            obtain ⟨q, hq, hxq⟩ := List.mem_iff_getElem.1 hx
            have hxq' : L[q]? = some x := by rw [List.getElem?_eq_getElem hq, hxq]
            have HQ := Lib.hid hxq'
            rw [HN.out] at hq
            clear hx hxq hxq' hsp
            have HMV := Lib.hid hmv
            clear hmv
            generalize waitsC L = ws at *
            go_wp2_with fail
            go_loopw [14] (fun i wz => ∃ j : Nat, j ≤ q ∧ i = .int .i64 j ∧ wz = wr) (fun i _ => k - (intOf i).toNat)
            case atStart => exact ⟨0, by omega, rfl, rfl⟩
            case round =>
              obtain ⟨j, hj, rfl, rfl⟩ := hrel
              have hjk : j < k := by omega
              obtain ⟨b1, o1, rfl, hb1, hc1⟩ := (HI.out.same J3.out) (by rw [HN.out]; omega)
              have hkL : j < L.length := by rw [HN.out]; exact hjk
              obtain ⟨y, hy⟩ : ∃ y, L[j]? = some y := ⟨_, List.getElem?_eq_getElem hkL⟩
              obtain ⟨e0, e1, e2, e3, e4⟩ := hc1 j y hy
              clear hc1
              by_cases hjq : j < q
              · have hne : y.c ≠ x.c := by
                  have := (HAs.out q x hq HQ.out).2 j y hjq hy
                  omega
                clear hy hkL
                generalize x.c = xc at *
                generalize y.c = yc at *
                have hne' : (yc != xc) = true := by rw [bne_iff_ne]; exact hne
                clear hne
                go_wp2
                go_roundw
                case rel => exact ⟨j + 1, by omega, by go_num, by trivial⟩
                case measure => simp [intOf]; omega
              · obtain rfl : j = q := by omega
                have hyx := HQ.out
                rw [hy] at hyx
                cases hyx
                clear hy hkL
                have HL := Lib.hid (fun wz => level_any x.h wz HXW)
                have hmv := HMV.out
                unfold Mover at hmv
                clear HMV HQ
                generalize lev x.h = lx at *
                obtain ⟨xc, xh, xt, xp, xb⟩ := x
                obtain ⟨hb, ⟨rfl, hr, ht, hp⟩ | ⟨rfl, hr, ht, hp⟩⟩ := hmv
                · simp only at hb ht hp
                  subst hb ht
                  rcases xp with _ | _
                  · have hp' := hp.resolve_left (by simp)
                    obtain ⟨rfl, h2⟩ := hp'
                    go_wp2_with fail
                    refine (HL.out _).mono ?_
                    rintro e w4 ⟨rfl, rfl⟩
                    go_wp2
                    exact HR.out _ _ ⟨by first | rfl | simp [h2], (show Same w _ from J3.out).below⟩
                  · go_wp2
                    exact HR.out _ _ ⟨by first | rfl | simp, (show Same w _ from J3.out).below⟩
                · simp only at hb ht hp
                  subst hb ht hp
                  go_wp2
                  exact HR.out _ _ ⟨by first | rfl | simp [hr], (show Same w _ from J3.out).below⟩
theorem rankPinned_open {H : Type} {enc : TypeId × Value → H} (w : World) (b0 : Nat) {base : Nat} {spare : Nat → Bool} {held : Bool} {v0 v1 v2 : Value} {d0 d1 d2 : DataW H} {p0 p1 p2 : List MemPlace} (h0 : DataW.Trod enc Try.prog w base spare held 41 v0 d0 p0) (h1 : DataW.Trod enc Try.prog w base spare held 3 v1 d1 p1) (h2 : DataW.Trod enc Try.prog w base spare held 3 v2 d2 p2)
    (hv0 : Value.okWide Try.prog w .any b0 41 v0) (hv1 : Value.okWide Try.prog w .any b0 3 v1) (hv2 : Value.okWide Try.prog w .any b0 3 v2) :
    Calls Try.prog 7 #[v0, v1, v2] w fun e w' => e = .returned (.bool true) ∧ Below w.heap.size w w' := by
  obtain ⟨a, c, L, rfl, hm, hI, hw⟩ := its_open h0 hv0
  obtain ⟨r, rfl, _⟩ := int_open Try.underlying3 hv1 h1
  obtain ⟨k, rfl, _⟩ := int_open Try.underlying3 hv2 h2
  exact rankPinned_walk a c L r k w hm hI hw
end Go.Proofs.Yteommjbbjdbhkaa
