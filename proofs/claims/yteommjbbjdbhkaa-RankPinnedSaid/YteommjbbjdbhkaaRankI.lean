import Derived.Test.YteommjbbjdbhkaaRankH
set_option linter.unusedSimpArgs false
set_option linter.unusedVariables false
namespace Go.Proofs.Yteommjbbjdbhkaa
open Go Go.RowKit
theorem ofC_wf {L : List It} (h : Wf L) (c : Int) : (ofC L c).h ≤ 9223372036854775807 := by
  unfold ofC
  rcases hf : L.find? (fun x => x.c == c) with _ | x
  · rw [hf]; show (0 : Int) ≤ _; omega
  · rw [hf]; exact h x (List.mem_of_find?_eq_some hf)
set_option maxHeartbeats 4000000 in
theorem wants_any (a : Option Addr) (cap : Nat) (L : List It) (room pick : Int) (w : World) (hl : L.length ≤ 1000) (hI : Its w a L) (hw : Wf L) :
    Calls Try.prog 29 #[.slice a L.length cap, .int .i64 room, .int .i64 pick] w fun e w' => e = .returned (.tuple #[.int .i64 (wantsC L room pick).1, .int .i64 (wantsC L room pick).2.1, .bool (wantsC L room pick).2.2]) ∧ Same w w' := by
  refine opq fun R HR => ?_
  have HU := Lib.hid (up_any a cap L pick w hl hI hw)
  have HD := Lib.hid (fun (wz : World) (M : Same w wz) => down_any a cap L pick wz hl (hI.same M) hw)
  have HO := Lib.hid (fun (c : Int) (wz : World) (M : Same w wz) => of_any a cap L c wz hl (hI.same M))
  have HW := ofC_wf hw
  unfold wantsC at HR
  generalize upC L pick = u at *
  generalize downC L pick = d at *
  have HWu := HW u
  have HWd := HW d
  clear HW
  have HOu := Lib.hid (HO.out u)
  have HOd := Lib.hid (HO.out d)
  clear HO
  generalize ofC L u = xu at *
  generalize ofC L d = xd at *
  generalize L.length = n at *
  go_enter Try.func29, Try.ntmps29
  go_wp2_with fail
  refine HU.out.mono ?_
  rintro e w1 ⟨rfl, M1⟩
  have J1 := Lib.hid M1
  clear M1 HU
  by_cases hu : u = 0
  · subst hu
    rw [if_pos rfl] at HR
    go_wp2
    exact HR.out _ _ ⟨rfl, J1.out⟩
  · rw [if_neg hu] at HR
    by_cases hroom : 0 < room
    · rw [if_pos hroom] at HR
      go_wp2
      exact HR.out _ _ ⟨rfl, J1.out⟩
    · rw [if_neg hroom] at HR
      go_wp2_with fail
      refine (HD.out _ J1.out).mono ?_
      rintro e w2 ⟨rfl, M2⟩
      have J2 := Lib.hid (J1.out.same M2)
      clear M2 HD J1
      go_wp2_with fail
      refine (HOu.out _ J2.out).mono ?_
      rintro e w3 ⟨rfl, M3⟩
      have J3 := Lib.hid (J2.out.same M3)
      clear M3 HOu J2
      go_wp2_with fail
      refine (HOd.out _ J3.out).mono ?_
      rintro e w4 ⟨rfl, M4⟩
      have J4 := Lib.hid (J3.out.same M4)
      clear M4 HOd J3
      go_wp2_with fail
      have J5 := Lib.hid ((J4.out.alloc (.cells #[.int .i64 xu.c, .int .i64 xu.h, .int .i64 xu.t, .bool xu.p, .bool xu.b] 53)).alloc (.cells #[.int .i64 xd.c, .int .i64 xd.h, .int .i64 xd.t, .bool xd.p, .bool xd.b] 53))
      have B1 := (Blk.new w4 #[.int .i64 xu.c, .int .i64 xu.h, .int .i64 xu.t, .bool xu.p, .bool xu.b] 53).alloc (.cells #[.int .i64 xd.c, .int .i64 xd.h, .int .i64 xd.t, .bool xd.p, .bool xd.b] 53)
      have B2 := Blk.new (w4.alloc (.cells #[.int .i64 xu.c, .int .i64 xu.h, .int .i64 xu.t, .bool xu.p, .bool xu.b] 53)) #[.int .i64 xd.c, .int .i64 xd.h, .int .i64 xd.t, .bool xd.p, .bool xd.b] 53
      have hz : (w4.alloc (.cells #[.int .i64 xu.c, .int .i64 xu.h, .int .i64 xu.t, .bool xu.p, .bool xu.b] 53)).heap.size = w4.heap.size + 1 := by simp
      rw [hz] at B2
      generalize (w4.alloc _).alloc _ = W at *
      have e1 := B1.at_ (i := 1) (.int .i64 xu.h) rfl
      have e3 := B1.at_ (i := 3) (.bool xu.p) rfl
      have f1 := B2.at_ (i := 1) (.int .i64 xd.h) rfl
      clear B1 B2 hz
      have HLu := Lib.hid (fun wz => level_any xu.h wz HWu)
      have HLd := Lib.hid (fun wz => level_any xd.h wz HWd)
      generalize lev xu.h = lu at *
      generalize lev xd.h = ld at *
      generalize xu.h = hu1 at *
      generalize xd.h = hd1 at *
      generalize xu.p = pu at *
      by_cases hd : d = 0
      · subst hd
        rw [if_neg (fun q => q.1 rfl)] at HR
        go_big_quiet (fail)
        go_wp2
        exact HR.out _ _ ⟨rfl, J5.out.drewN _⟩
      · have hd' : (d != 0) = true := by rw [bne_iff_ne]; exact hd
        rcases pu with _ | _
        · by_cases hlt : ld < lu
          · rw [if_pos ⟨hd, .inr hlt⟩] at HR
            go_big_quiet ((go_at_call 27; first | exact quiet_eq (HLu.out _) | exact quiet_eq (HLd.out _)))
            go_wp2
            exact HR.out _ _ ⟨rfl, J5.out.drewN _⟩
          · rw [if_neg (fun q => q.2.elim (fun q => absurd q (by simp)) hlt)] at HR
            go_big_quiet ((go_at_call 27; first | exact quiet_eq (HLu.out _) | exact quiet_eq (HLd.out _)))
            go_wp2
            exact HR.out _ _ ⟨rfl, J5.out.drewN _⟩
        · rw [if_pos ⟨hd, .inl rfl⟩] at HR
          go_big_quiet (fail)
          go_wp2
          exact HR.out _ _ ⟨rfl, J5.out.drewN _⟩
end Go.Proofs.Yteommjbbjdbhkaa
