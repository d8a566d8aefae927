import Derived.Test.YteommjbbjdbhkaaRankN
import Derived.Test.YteommjbbjdbhkaaRankI
set_option linter.unusedSimpArgs false
set_option linter.unusedVariables false
namespace Go.Proofs.Yteommjbbjdbhkaa
open Go Go.RowKit
set_option maxHeartbeats 2000000 in
theorem rof_any (a : Option Addr) (cap : Nat) (L : List It) (c : Int) (w : World) (hl : L.length ≤ 1000) (hI : Its w a L) :
    Calls Try.prog 40 #[.slice a L.length cap, .int .i64 c] w fun e w' => e = .returned (itV (ofC L c).c (ofC L c).h (ofC L c).t (ofC L c).p (ofC L c).b) ∧ Same w w' := by
  refine opq fun R HR => ?_
  unfold ofC at HR
  have HI := Lib.hid hI
  clear hI
  obtain ⟨n, hn⟩ : ∃ n, L.length = n := ⟨_, rfl⟩
  rw [hn] at hl ⊢
  have HN := Lib.hid hn
  clear hn
  go_enter Try.func40, Try.ntmps40
  have M2 := Lib.hid ((Mod.refl (fun _ => False) w).alloc (.cells #[.int .i64 0, .int .i64 0, .int .i64 0, .bool false, .bool false] 63))
  have B2 := Lib.hid (Blk.new w #[.int .i64 0, .int .i64 0, .int .i64 0, .bool false, .bool false] 63)
  go_wp2_with fail
  generalize w.alloc _ = W at *
  go_loopw [5] (fun i wr => ∃ k : Nat, k ≤ n ∧ i = .int .i64 k ∧ (L.take k).find? (fun x => x.c == c) = none ∧ wr = W) (fun i _ => n - (intOf i).toNat)
  case atStart => exact ⟨0, by omega, rfl, rfl, rfl⟩
  case round =>
    obtain ⟨k, hk, rfl, hfd, rfl⟩ := hrel
    have hX := B2.out.cell
    have hXl := B2.out.lt
    have hXf := B2.out.free
    by_cases hlt : k < n
    · obtain ⟨b1, o1, rfl, hb1, hc1⟩ := (HI.out.same M2.out) (by rw [HN.out]; omega)
      have hkL : k < L.length := by rw [HN.out]; exact hlt
      obtain ⟨x, hx⟩ : ∃ x, L[k]? = some x := ⟨_, List.getElem?_eq_getElem hkL⟩
      obtain ⟨e0, e1, e2, e3, e4⟩ := hc1 k x hx
      have HF := Lib.hid (find_step hx hfd)
      clear hc1 hx hfd
      by_cases hpr : x.c = c
      · have HT := HF.out.1 (by rw [beq_iff_eq]; exact hpr)
        rw [HT] at HR
        clear HT HF
        go_wp2
        obtain ⟨w4, he, M4, h0, h1, h2, h3, h4⟩ := out5 M2.out (b := w.heap.size) (by omega) B2.out rfl (.int .i64 x.c) (.int .i64 x.h) (.int .i64 x.t) (.bool x.p) (.bool x.b)
        try rw [← hpr]
        try rw [he]
        have J4 := Lib.hid M4
        clear M4 hX hXf
        exact bodyPost_ret (v := itV x.c x.h x.t x.p x.b) (by simp [results, Try.results40, go_sem, h0, h1, h2, h3, h4]) rfl (HR.out _ _ ⟨rfl, J4.out⟩)
      · have HT := Lib.hid (HF.out.2 (by rw [beq_eq_false_iff_ne]; exact hpr))
        clear HF
        go_wp2
        go_roundw
        case rel => exact ⟨k + 1, by omega, by go_num, HT.out, by trivial⟩
        case measure => simp [intOf]; omega
    · obtain rfl : k = n := by omega
      have hall : L.take k = L := List.take_of_length_le (by rw [HN.out]; exact Nat.le_refl _)
      rw [hall] at hfd
      rw [hfd] at HR
      clear hfd hall
      go_wp2
      obtain ⟨w4, he, M4, h0, h1, h2, h3, h4⟩ := out5 M2.out (b := w.heap.size) (by omega) B2.out rfl (.int .i64 0) (.int .i64 0) (.int .i64 0) (.bool false) (.bool false)
      rw [he]
      have J4 := Lib.hid M4
      clear he M4 hX hXf
      exact bodyPost_ret (v := itV 0 0 0 false false) (by simp [results, Try.results40, go_sem, h0, h1, h2, h3, h4]) rfl (HR.out _ _ ⟨rfl, J4.out⟩)
theorem fld3 (a b c d e : Value) (w : World) : Sem.run Try.prog (Instr.field 63 (.agg #[a, b, c, d, e]) 3) w = .ok d w := by
  with_unfolding_all rfl
theorem fld1 (a b c d e : Value) (w : World) : Sem.run Try.prog (Instr.field 63 (.agg #[a, b, c, d, e]) 1) w = .ok b w := by
  with_unfolding_all rfl
set_option maxHeartbeats 4000000 in
theorem rwants_any (a : Option Addr) (cap : Nat) (L : List It) (room pick : Int) (w : World) (hl : L.length ≤ 1000) (hI : Its w a L) (hw : Wf L) :
    Calls Try.prog 30 #[.slice a L.length cap, .int .i64 room, .int .i64 pick] w fun e w' => e = .returned (.tuple #[.int .i64 (wantsC L room pick).1, .int .i64 (wantsC L room pick).2.1, .bool (wantsC L room pick).2.2]) ∧ Same w w' := by
  refine opq fun R HR => ?_
  have HU := Lib.hid (rup_any a cap L pick w hl hI hw)
  have HD := Lib.hid (fun (wz : World) (M : Same w wz) => rdown_any a cap L pick wz hl (hI.same M) hw)
  have HO := Lib.hid (fun (c : Int) (wz : World) (M : Same w wz) => rof_any a cap L c wz hl (hI.same M))
  have HW := ofC_wf hw
  unfold wantsC at HR
  generalize upC L pick = u at *
  generalize downC L pick = d at *
  have HWu := HW u
  have HWd := HW d
  clear HW
  have HOu := Lib.hid (HO.out u)
  have HOd := Lib.hid (HO.out d)
  clear HO
  generalize ofC L u = xu at *
  generalize ofC L d = xd at *
  generalize L.length = n at *
  have HLu := Lib.hid (fun wz => rlevel_any xu.h wz HWu)
  have HLd := Lib.hid (fun wz => rlevel_any xd.h wz HWd)
  generalize lev xu.h = lu at *
  generalize lev xd.h = ld at *
  go_enter Try.func30, Try.ntmps30
  go_wp2_with fail
  refine HU.out.mono ?_
  rintro e w1 ⟨rfl, M1⟩
  have J1 := Lib.hid M1
  clear M1 HU
  go_wp2_with fail
  refine (HD.out _ J1.out).mono ?_
  rintro e w2 ⟨rfl, M2⟩
  have J2 := Lib.hid (J1.out.same M2)
  clear M2 HD J1
  by_cases hu : u = 0
  · subst hu
    rw [if_pos rfl] at HR
    go_wp2
    exact HR.out _ _ ⟨rfl, J2.out⟩
  · rw [if_neg hu] at HR
    by_cases hroom : 0 < room
    · rw [if_pos hroom] at HR
      go_wp2
      exact HR.out _ _ ⟨rfl, J2.out⟩
    · rw [if_neg hroom] at HR
      by_cases hd : d = 0
      · subst hd
        rw [if_neg (fun q => q.1 rfl)] at HR
        go_wp2
        exact HR.out _ _ ⟨rfl, J2.out⟩
      · have hd' : (d != 0) = true := by rw [bne_iff_ne]; exact hd
        obtain ⟨xc, xh, xt, xp, xb⟩ := xu
        rcases xp with _ | _
        · by_cases hlt : ld < lu
          · rw [if_pos ⟨hd, .inr hlt⟩] at HR
            go_wp2_with fail
            refine (HOu.out _ J2.out).mono ?_
            rintro e w3 ⟨rfl, M3⟩
            have J3 := Lib.hid (J2.out.same M3)
            clear M3 J2
            go_wp2_with fail
            rw [fld3]
            go_wp2_with fail
            refine (HOu.out _ J3.out).mono ?_
            rintro e w4 ⟨rfl, M4⟩
            have J4 := Lib.hid (J3.out.same M4)
            clear M4 J3
            go_wp2_with fail
            rw [fld1]
            go_wp2_with fail
            refine (HLu.out _).mono ?_
            rintro e w4 ⟨rfl, rfl⟩
            go_wp2_with fail
            refine (HOd.out _ J4.out).mono ?_
            rintro e w5 ⟨rfl, M5⟩
            have J5 := Lib.hid (J4.out.same M5)
            clear M5 J4
            go_wp2_with fail
            rw [fld1]
            go_wp2_with fail
            refine (HLd.out _).mono ?_
            rintro e w5 ⟨rfl, rfl⟩
            go_wp2
            exact HR.out _ _ ⟨rfl, J5.out⟩
          · rw [if_neg (fun q => q.2.elim (fun q => absurd q (by simp)) hlt)] at HR
            go_wp2_with fail
            refine (HOu.out _ J2.out).mono ?_
            rintro e w3 ⟨rfl, M3⟩
            have J3 := Lib.hid (J2.out.same M3)
            clear M3 J2
            go_wp2_with fail
            rw [fld3]
            go_wp2_with fail
            refine (HOu.out _ J3.out).mono ?_
            rintro e w4 ⟨rfl, M4⟩
            have J4 := Lib.hid (J3.out.same M4)
            clear M4 J3
            go_wp2_with fail
            rw [fld1]
            go_wp2_with fail
            refine (HLu.out _).mono ?_
            rintro e w4 ⟨rfl, rfl⟩
            go_wp2_with fail
            refine (HOd.out _ J4.out).mono ?_
            rintro e w5 ⟨rfl, M5⟩
            have J5 := Lib.hid (J4.out.same M5)
            clear M5 J4
            go_wp2_with fail
            rw [fld1]
            go_wp2_with fail
            refine (HLd.out _).mono ?_
            rintro e w5 ⟨rfl, rfl⟩
            go_wp2
            exact HR.out _ _ ⟨rfl, J5.out⟩
        · rw [if_pos ⟨hd, .inl rfl⟩] at HR
          go_wp2_with fail
          refine (HOu.out _ J2.out).mono ?_
          rintro e w3 ⟨rfl, M3⟩
          have J3 := Lib.hid (J2.out.same M3)
          clear M3 J2
          go_wp2_with fail
          rw [fld3]
          go_wp2
          exact HR.out _ _ ⟨rfl, J3.out⟩
end Go.Proofs.Yteommjbbjdbhkaa
