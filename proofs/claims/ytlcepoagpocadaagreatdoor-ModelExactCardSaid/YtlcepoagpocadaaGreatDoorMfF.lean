import Derived.Test.YtlcepoagpocadaaGreatDoorMfS
import Derived.Test.YtlcepoagpocadaaGreatDoorMfC
set_option linter.unusedSimpArgs false
set_option linter.unusedVariables false
set_option maxRecDepth 100000
/- The examples of the model are met. -/
namespace Go.Proofs.YtlcepoagpocadaaGreatDoor
open Go Go.RowKit
set_option maxHeartbeats 8000000 in
theorem awake_any (w : World) (hL : LibOK w) : Calls Tryz.prog 14 #[] w fun e w' => e = .returned (.bool true) ∧ Same w w' := by
  refine opq fun R HR => ?_
  have HL0 := Lib.hid hL
  obtain ⟨K, hKd⟩ : ∃ K : Nat → Prop, K = fun i => i < w.heap.size := ⟨_, rfl⟩
  have HN := Lib.hid (show Calls Tryz.prog 15 #[.int .i64 2] w _ from new_some K w (fun i hi => by rw [hKd] at hi; exact hi) 2 (by decide) (by decide))
  have hK0 := Lib.hid (show ∀ i, i < w.heap.size → K i from fun i hi => by rw [hKd]; exact hi)
  clear hL hKd
  go_enter Tryz.func14, Tryz.ntmps14
  go_wp2_with fail
  refine HN.out.mono ?_
  rintro e w1 ⟨m, rfl, hm, M⟩
  have J1 := Lib.hid M
  have HM1 := Lib.hid hm
  have G0 := Lib.hid good_empty
  have W0 := Lib.hid (wf_empty 2)
  clear hm M HN
  unfold bp at *
  go_wp2_with fail
  refine (new_none w1 0 (I64.of (by omega)) (.inl (by decide))).mono ?_
  rintro e w2 ⟨rfl, M⟩
  have J2 := Lib.hid (J1.out.same M)
  have HM2 := Lib.hid (HM1.out.same M)
  clear M HM1 J1

  have HL3 := Lib.hid (HL0.out.same J2.out)
  go_wp2_with fail
  refine (show Calls Tryz.prog 20 #[bp m, .iface 25 (.agg #[.int .i64 1, .int .i64 2])] w2 _ from do_any HM2.out G0.out W0.out ⟨0, [1, 2], []⟩ ⟨by decide, rfl, rfl, by simp [J64]⟩ HL3.out).mono ?_
  rintro e w3 ⟨rA, dA, uaA, unA, ucA, SA, tA, rfl, hd, hm, M, ht⟩
  have DA := Lib.hid hd
  have TVA := Lib.hid ht
  have HM3 := Lib.hid hm
  have GA := Lib.hid (good_do G0.out W0.out hd)
  have J3 := Lib.hid (same_of J2.out M hK0.out)
  clear hd hm M ht
  obtain ⟨w4, hw4⟩ : ∃ z, w3.alloc (.cells #[.int .i64 rA, .string ⟨dA.toArray⟩, (.slice uaA unA ucA)] 31) = z := ⟨_, rfl⟩
  have N4 := Lib.hid (show Same w3 w4 by rw [← hw4]; exact (Mod.refl _ _).alloc _)
  have J4 := Lib.hid (J3.out.same N4.out)
  obtain ⟨xA, hxA⟩ : ∃ z, w3.heap.size = z := ⟨_, rfl⟩
  have BA4 := Lib.hid (show Blk w4 xA #[.int .i64 rA, .string ⟨dA.toArray⟩, (.slice uaA unA ucA)] by rw [← hw4, ← hxA]; exact Blk.new w3 _ 31)
  obtain ⟨KA, hKA⟩ : ∃ z : Nat → Prop, (fun i => K i ∨ (w3.heap.size ≤ i ∧ i < w4.heap.size)) = z := ⟨_, rfl⟩
  have HM4 := Lib.hid (show Md Tryz.prog KA w4 m SA by rw [← hKA]; exact HM3.out.more N4.out)
  have hA0 := Lib.hid (show ∀ i, i < w.heap.size → KA i from fun i hi => by rw [← hKA]; exact Or.inl (hK0.out i hi))
  have kA4 := Lib.hid (show KA xA by rw [← hKA]; exact Or.inr ⟨by omega, by have := BA4.out.lt; omega⟩)
  have WA := Lib.hid GA.out.2.1
  have GGA := Lib.hid GA.out.1
  clear hKA HL3 HM3 J3
  try rw [hw4]

  go_wp2_with fail
  refine (fill_one w4 5 (by decide)).mono ?_
  rintro e w5 ⟨rfl, M⟩
  have J5 := Lib.hid (J4.out.same M)
  have HM5 := Lib.hid (HM4.out.same M)
  have BA5 := Lib.hid (BA4.out.mod M (fun q => q))
  have kA5 := Lib.hid kA4.out
  clear M
  have HL6 := Lib.hid (HL0.out.same J5.out)
  go_wp2_with fail
  refine (show Calls Tryz.prog 20 #[bp m, .iface 38 (.agg #[.int .i64 1, .int .i64 1, strV (T16 5)])] w5 _ from do_any HM5.out GGA.out WA.out ⟨7, [1, 1], [T16 5]⟩ ⟨by decide, rfl, rfl, by simp [J64]⟩ HL6.out).mono ?_
  rintro e w6 ⟨rB, dB, uaB, unB, ucB, SB, tB, rfl, hd, hm, M, ht⟩
  have DB := Lib.hid hd
  have TVB := Lib.hid ht
  have HM6 := Lib.hid hm
  have GB := Lib.hid (good_do GGA.out WA.out hd)
  have J6 := Lib.hid (same_of J5.out M hA0.out)
  have BA6 := Lib.hid (BA5.out.mod M (fun q => q kA5.out))
  have kA6 := Lib.hid kA5.out
  clear hd hm M ht
  obtain ⟨w7, hw7⟩ : ∃ z, w6.alloc (.cells #[.int .i64 rB, .string ⟨dB.toArray⟩, (.slice uaB unB ucB)] 31) = z := ⟨_, rfl⟩
  have N7 := Lib.hid (show Same w6 w7 by rw [← hw7]; exact (Mod.refl _ _).alloc _)
  have J7 := Lib.hid (J6.out.same N7.out)
  obtain ⟨xB, hxB⟩ : ∃ z, w6.heap.size = z := ⟨_, rfl⟩
  have BB7 := Lib.hid (show Blk w7 xB #[.int .i64 rB, .string ⟨dB.toArray⟩, (.slice uaB unB ucB)] by rw [← hw7, ← hxB]; exact Blk.new w6 _ 31)
  obtain ⟨KB, hKB⟩ : ∃ z : Nat → Prop, (fun i => KA i ∨ (w6.heap.size ≤ i ∧ i < w7.heap.size)) = z := ⟨_, rfl⟩
  have HM7 := Lib.hid (show Md Tryz.prog KB w7 m SB by rw [← hKB]; exact HM6.out.more N7.out)
  have hB0 := Lib.hid (show ∀ i, i < w.heap.size → KB i from fun i hi => by rw [← hKB]; exact Or.inl (hA0.out i hi))
  have kB7 := Lib.hid (show KB xB by rw [← hKB]; exact Or.inr ⟨by omega, by have := BB7.out.lt; omega⟩)
  have WB := Lib.hid GB.out.2.1
  have GGB := Lib.hid GB.out.1
  have BA7 := Lib.hid (BA6.out.mod N7.out (fun q => q))
  have kA7 := Lib.hid (show KB xA by rw [← hKB]; exact Or.inl kA6.out)
  clear hKB HL6 HM6 J6 BA6 kA6
  try rw [hw7]

  have HL8 := Lib.hid (HL0.out.same J7.out)
  go_wp2_with fail
  refine (show Calls Tryz.prog 20 #[bp m, .iface 81 (.agg #[.int .i64 1, .int .i64 2])] w7 _ from do_any HM7.out GGB.out WB.out ⟨2, [1, 2], []⟩ ⟨by decide, rfl, rfl, by simp [J64]⟩ HL8.out).mono ?_
  rintro e w8 ⟨rC, dC, uaC, unC, ucC, SC, tC, rfl, hd, hm, M, ht⟩
  have DC := Lib.hid hd
  have TVC := Lib.hid ht
  have HM8 := Lib.hid hm
  have GC := Lib.hid (good_do GGB.out WB.out hd)
  have J8 := Lib.hid (same_of J7.out M hB0.out)
  have BA8 := Lib.hid (BA7.out.mod M (fun q => q kA7.out))
  have kA8 := Lib.hid kA7.out
  have BB8 := Lib.hid (BB7.out.mod M (fun q => q kB7.out))
  have kB8 := Lib.hid kB7.out
  clear hd hm M ht
  obtain ⟨w9, hw9⟩ : ∃ z, w8.alloc (.cells #[.int .i64 rC, .string ⟨dC.toArray⟩, (.slice uaC unC ucC)] 31) = z := ⟨_, rfl⟩
  have N9 := Lib.hid (show Same w8 w9 by rw [← hw9]; exact (Mod.refl _ _).alloc _)
  have J9 := Lib.hid (J8.out.same N9.out)
  obtain ⟨xC, hxC⟩ : ∃ z, w8.heap.size = z := ⟨_, rfl⟩
  have BC9 := Lib.hid (show Blk w9 xC #[.int .i64 rC, .string ⟨dC.toArray⟩, (.slice uaC unC ucC)] by rw [← hw9, ← hxC]; exact Blk.new w8 _ 31)
  obtain ⟨KC, hKC⟩ : ∃ z : Nat → Prop, (fun i => KB i ∨ (w8.heap.size ≤ i ∧ i < w9.heap.size)) = z := ⟨_, rfl⟩
  have HM9 := Lib.hid (show Md Tryz.prog KC w9 m SC by rw [← hKC]; exact HM8.out.more N9.out)
  have hC0 := Lib.hid (show ∀ i, i < w.heap.size → KC i from fun i hi => by rw [← hKC]; exact Or.inl (hB0.out i hi))
  have kC9 := Lib.hid (show KC xC by rw [← hKC]; exact Or.inr ⟨by omega, by have := BC9.out.lt; omega⟩)
  have WC := Lib.hid GC.out.2.1
  have GGC := Lib.hid GC.out.1
  have BA9 := Lib.hid (BA8.out.mod N9.out (fun q => q))
  have kA9 := Lib.hid (show KC xA by rw [← hKC]; exact Or.inl kA8.out)
  have BB9 := Lib.hid (BB8.out.mod N9.out (fun q => q))
  have kB9 := Lib.hid (show KC xB by rw [← hKC]; exact Or.inl kB8.out)
  clear hKC HL8 HM8 J8 BA8 kA8 BB8 kB8
  try rw [hw9]

  go_wp2_with fail
  refine (fill_one w9 9 (by decide)).mono ?_
  rintro e w10 ⟨rfl, M⟩
  have J10 := Lib.hid (J9.out.same M)
  have HM10 := Lib.hid (HM9.out.same M)
  have BA10 := Lib.hid (BA9.out.mod M (fun q => q))
  have kA10 := Lib.hid kA9.out
  have BB10 := Lib.hid (BB9.out.mod M (fun q => q))
  have kB10 := Lib.hid kB9.out
  have BC10 := Lib.hid (BC9.out.mod M (fun q => q))
  have kC10 := Lib.hid kC9.out
  clear M
  go_wp2_with fail
  refine (show Calls Tryz.prog 18 #[bp m, .iface 38 (.agg #[.int .i64 2, .int .i64 0, strV (T16 9)])] w10 _ from wants_any HM10.out GGC.out WC.out ⟨7, [2, 0], [T16 9]⟩ ⟨by decide, rfl, rfl, by simp [J64]⟩ (by simp [T16])).mono ?_
  rintro e w11 ⟨rfl, M⟩
  have J11 := Lib.hid (J10.out.same M)
  have HM11 := Lib.hid (HM10.out.same M)
  have BA11 := Lib.hid (BA10.out.mod M (fun q => q))
  have kA11 := Lib.hid kA10.out
  have BB11 := Lib.hid (BB10.out.mod M (fun q => q))
  have kB11 := Lib.hid kB10.out
  have BC11 := Lib.hid (BC10.out.mod M (fun q => q))
  have kC11 := Lib.hid kC10.out
  clear M
  go_wp2_with fail
  refine (fill_one w11 9 (by decide)).mono ?_
  rintro e w12 ⟨rfl, M⟩
  have J12 := Lib.hid (J11.out.same M)
  have HM12 := Lib.hid (HM11.out.same M)
  have BA12 := Lib.hid (BA11.out.mod M (fun q => q))
  have kA12 := Lib.hid kA11.out
  have BB12 := Lib.hid (BB11.out.mod M (fun q => q))
  have kB12 := Lib.hid kB11.out
  have BC12 := Lib.hid (BC11.out.mod M (fun q => q))
  have kC12 := Lib.hid kC11.out
  clear M
  have HL13 := Lib.hid (HL0.out.same J12.out)
  go_wp2_with fail
  refine (show Calls Tryz.prog 20 #[bp m, .iface 38 (.agg #[.int .i64 2, .int .i64 0, strV (T16 9)])] w12 _ from do_any HM12.out GGC.out WC.out ⟨7, [2, 0], [T16 9]⟩ ⟨by decide, rfl, rfl, by simp [J64]⟩ HL13.out).mono ?_
  rintro e w13 ⟨rD, dD, uaD, unD, ucD, SD, tD, rfl, hd, hm, M, ht⟩
  have DD := Lib.hid hd
  have TVD := Lib.hid ht
  have HM13 := Lib.hid hm
  have GD := Lib.hid (good_do GGC.out WC.out hd)
  have J13 := Lib.hid (same_of J12.out M hC0.out)
  have BA13 := Lib.hid (BA12.out.mod M (fun q => q kA12.out))
  have kA13 := Lib.hid kA12.out
  have BB13 := Lib.hid (BB12.out.mod M (fun q => q kB12.out))
  have kB13 := Lib.hid kB12.out
  have BC13 := Lib.hid (BC12.out.mod M (fun q => q kC12.out))
  have kC13 := Lib.hid kC12.out
  clear hd hm M ht
  obtain ⟨w14, hw14⟩ : ∃ z, w13.alloc (.cells #[.int .i64 rD, .string ⟨dD.toArray⟩, (.slice uaD unD ucD)] 31) = z := ⟨_, rfl⟩
  have N14 := Lib.hid (show Same w13 w14 by rw [← hw14]; exact (Mod.refl _ _).alloc _)
  have J14 := Lib.hid (J13.out.same N14.out)
  obtain ⟨xD, hxD⟩ : ∃ z, w13.heap.size = z := ⟨_, rfl⟩
  have BD14 := Lib.hid (show Blk w14 xD #[.int .i64 rD, .string ⟨dD.toArray⟩, (.slice uaD unD ucD)] by rw [← hw14, ← hxD]; exact Blk.new w13 _ 31)
  obtain ⟨KD, hKD⟩ : ∃ z : Nat → Prop, (fun i => KC i ∨ (w13.heap.size ≤ i ∧ i < w14.heap.size)) = z := ⟨_, rfl⟩
  have HM14 := Lib.hid (show Md Tryz.prog KD w14 m SD by rw [← hKD]; exact HM13.out.more N14.out)
  have hD0 := Lib.hid (show ∀ i, i < w.heap.size → KD i from fun i hi => by rw [← hKD]; exact Or.inl (hC0.out i hi))
  have kD14 := Lib.hid (show KD xD by rw [← hKD]; exact Or.inr ⟨by omega, by have := BD14.out.lt; omega⟩)
  have WD := Lib.hid GD.out.2.1
  have GGD := Lib.hid GD.out.1
  have BA14 := Lib.hid (BA13.out.mod N14.out (fun q => q))
  have kA14 := Lib.hid (show KD xA by rw [← hKD]; exact Or.inl kA13.out)
  have BB14 := Lib.hid (BB13.out.mod N14.out (fun q => q))
  have kB14 := Lib.hid (show KD xB by rw [← hKD]; exact Or.inl kB13.out)
  have BC14 := Lib.hid (BC13.out.mod N14.out (fun q => q))
  have kC14 := Lib.hid (show KD xC by rw [← hKD]; exact Or.inl kC13.out)
  clear hKD HL13 HM13 J13 BA13 kA13 BB13 kB13 BC13 kC13
  try rw [hw14]

  have HL15 := Lib.hid (HL0.out.same J14.out)
  go_wp2_with fail
  refine (show Calls Tryz.prog 20 #[bp m, .iface 94 (.agg #[.int .i64 1, .int .i64 0, .int .i64 2])] w14 _ from do_any HM14.out GGD.out WD.out ⟨6, [1, 0, 2], []⟩ ⟨by decide, rfl, rfl, by simp [J64]⟩ HL15.out).mono ?_
  rintro e w15 ⟨rE, dE, uaE, unE, ucE, SE, tE, rfl, hd, hm, M, ht⟩
  have DE := Lib.hid hd
  have TVE := Lib.hid ht
  have HM15 := Lib.hid hm
  have GE := Lib.hid (good_do GGD.out WD.out hd)
  have J15 := Lib.hid (same_of J14.out M hD0.out)
  have BA15 := Lib.hid (BA14.out.mod M (fun q => q kA14.out))
  have kA15 := Lib.hid kA14.out
  have BB15 := Lib.hid (BB14.out.mod M (fun q => q kB14.out))
  have kB15 := Lib.hid kB14.out
  have BC15 := Lib.hid (BC14.out.mod M (fun q => q kC14.out))
  have kC15 := Lib.hid kC14.out
  have BD15 := Lib.hid (BD14.out.mod M (fun q => q kD14.out))
  have kD15 := Lib.hid kD14.out
  clear hd hm M ht
  obtain ⟨w16, hw16⟩ : ∃ z, w15.alloc (.cells #[.int .i64 rE, .string ⟨dE.toArray⟩, (.slice uaE unE ucE)] 31) = z := ⟨_, rfl⟩
  have N16 := Lib.hid (show Same w15 w16 by rw [← hw16]; exact (Mod.refl _ _).alloc _)
  have J16 := Lib.hid (J15.out.same N16.out)
  obtain ⟨xE, hxE⟩ : ∃ z, w15.heap.size = z := ⟨_, rfl⟩
  have BE16 := Lib.hid (show Blk w16 xE #[.int .i64 rE, .string ⟨dE.toArray⟩, (.slice uaE unE ucE)] by rw [← hw16, ← hxE]; exact Blk.new w15 _ 31)
  obtain ⟨KE, hKE⟩ : ∃ z : Nat → Prop, (fun i => KD i ∨ (w15.heap.size ≤ i ∧ i < w16.heap.size)) = z := ⟨_, rfl⟩
  have HM16 := Lib.hid (show Md Tryz.prog KE w16 m SE by rw [← hKE]; exact HM15.out.more N16.out)
  have hE0 := Lib.hid (show ∀ i, i < w.heap.size → KE i from fun i hi => by rw [← hKE]; exact Or.inl (hD0.out i hi))
  have kE16 := Lib.hid (show KE xE by rw [← hKE]; exact Or.inr ⟨by omega, by have := BE16.out.lt; omega⟩)
  have WE := Lib.hid GE.out.2.1
  have GGE := Lib.hid GE.out.1
  have BA16 := Lib.hid (BA15.out.mod N16.out (fun q => q))
  have kA16 := Lib.hid (show KE xA by rw [← hKE]; exact Or.inl kA15.out)
  have BB16 := Lib.hid (BB15.out.mod N16.out (fun q => q))
  have kB16 := Lib.hid (show KE xB by rw [← hKE]; exact Or.inl kB15.out)
  have BC16 := Lib.hid (BC15.out.mod N16.out (fun q => q))
  have kC16 := Lib.hid (show KE xC by rw [← hKE]; exact Or.inl kC15.out)
  have BD16 := Lib.hid (BD15.out.mod N16.out (fun q => q))
  have kD16 := Lib.hid (show KE xD by rw [← hKE]; exact Or.inl kD15.out)
  clear hKE HL15 HM15 J15 BA15 kA15 BB15 kB15 BC15 kC15 BD15 kD15
  try rw [hw16]

  have HL17 := Lib.hid (HL0.out.same J16.out)
  go_wp2_with fail
  refine (show Calls Tryz.prog 20 #[bp m, .iface 117 (.agg #[])] w16 _ from do_any HM16.out GGE.out WE.out ⟨12, [], []⟩ ⟨by decide, rfl, rfl, by simp [J64]⟩ HL17.out).mono ?_
  rintro e w17 ⟨rF, dF, uaF, unF, ucF, SF, tF, rfl, hd, hm, M, ht⟩
  have DF := Lib.hid hd
  have TVF := Lib.hid ht
  have HM17 := Lib.hid hm
  have GF := Lib.hid (good_do GGE.out WE.out hd)
  have J17 := Lib.hid (same_of J16.out M hE0.out)
  have BA17 := Lib.hid (BA16.out.mod M (fun q => q kA16.out))
  have kA17 := Lib.hid kA16.out
  have BB17 := Lib.hid (BB16.out.mod M (fun q => q kB16.out))
  have kB17 := Lib.hid kB16.out
  have BC17 := Lib.hid (BC16.out.mod M (fun q => q kC16.out))
  have kC17 := Lib.hid kC16.out
  have BD17 := Lib.hid (BD16.out.mod M (fun q => q kD16.out))
  have kD17 := Lib.hid kD16.out
  have BE17 := Lib.hid (BE16.out.mod M (fun q => q kE16.out))
  have kE17 := Lib.hid kE16.out
  clear hd hm M ht
  obtain ⟨w18, hw18⟩ : ∃ z, w17.alloc (.cells #[.int .i64 rF, .string ⟨dF.toArray⟩, (.slice uaF unF ucF)] 31) = z := ⟨_, rfl⟩
  have N18 := Lib.hid (show Same w17 w18 by rw [← hw18]; exact (Mod.refl _ _).alloc _)
  have J18 := Lib.hid (J17.out.same N18.out)
  obtain ⟨xF, hxF⟩ : ∃ z, w17.heap.size = z := ⟨_, rfl⟩
  have BF18 := Lib.hid (show Blk w18 xF #[.int .i64 rF, .string ⟨dF.toArray⟩, (.slice uaF unF ucF)] by rw [← hw18, ← hxF]; exact Blk.new w17 _ 31)
  obtain ⟨KF, hKF⟩ : ∃ z : Nat → Prop, (fun i => KE i ∨ (w17.heap.size ≤ i ∧ i < w18.heap.size)) = z := ⟨_, rfl⟩
  have HM18 := Lib.hid (show Md Tryz.prog KF w18 m SF by rw [← hKF]; exact HM17.out.more N18.out)
  have hF0 := Lib.hid (show ∀ i, i < w.heap.size → KF i from fun i hi => by rw [← hKF]; exact Or.inl (hE0.out i hi))
  have kF18 := Lib.hid (show KF xF by rw [← hKF]; exact Or.inr ⟨by omega, by have := BF18.out.lt; omega⟩)
  have WF := Lib.hid GF.out.2.1
  have GGF := Lib.hid GF.out.1
  have BA18 := Lib.hid (BA17.out.mod N18.out (fun q => q))
  have kA18 := Lib.hid (show KF xA by rw [← hKF]; exact Or.inl kA17.out)
  have BB18 := Lib.hid (BB17.out.mod N18.out (fun q => q))
  have kB18 := Lib.hid (show KF xB by rw [← hKF]; exact Or.inl kB17.out)
  have BC18 := Lib.hid (BC17.out.mod N18.out (fun q => q))
  have kC18 := Lib.hid (show KF xC by rw [← hKF]; exact Or.inl kC17.out)
  have BD18 := Lib.hid (BD17.out.mod N18.out (fun q => q))
  have kD18 := Lib.hid (show KF xD by rw [← hKF]; exact Or.inl kD17.out)
  have BE18 := Lib.hid (BE17.out.mod N18.out (fun q => q))
  have kE18 := Lib.hid (show KF xE by rw [← hKF]; exact Or.inl kE17.out)
  clear hKF HL17 HM17 J17 BA17 kA17 BB17 kB17 BC17 kC17 BD17 kD17 BE17 kE17
  try rw [hw18]

  have LAW := awake_law (T16_len 5) (T16_len 9) DA.out DB.out DC.out DD.out DE.out DF.out
  obtain ⟨eA, eB, eC, eW, eD, eE, eT, eS7, eS6, eCnt, eInf⟩ := LAW
  have HTV := TVF.out
  rw [eT] at HTV
  obtain ⟨hown, -⟩ := (show w17.ownsRow w16.heap.size 47 5 (.slice uaF unF ucF) SE.vols.length (SE.vols.flatMap infoC) ∧ _ from HTV)
  rw [eS6] at hown
  obtain ⟨v1, v2, hvs, hv2⟩ := two_info eInf
  have hlen : SD.vols.length = 2 := by rw [hvs]; rfl
  rw [hlen] at hown
  obtain ⟨gv, gc, hgv, hgb, hgc, hrow⟩ := RowV.of_owns hown (by decide)
  injection hgv with hgv1 hgv2 hgv3
  subst hgv1
  subst hgv2
  subst hgv3
  have c9 := Lib.hid (show w17.cell? ⟨gv, 9, none⟩ = some (.int .i64 1) from by
    rw [hrow.cell 9 (by decide), hvs]
    show some (List.getD (infoC v1 ++ (infoC v2 ++ [])) 9 undef) = _
    unfold infoC
    rw [hv2]
    rfl)
  have c9w := Lib.hid ((N18.out.cell hrow.lt (fun q => q) 9).trans c9.out)
  have RE := Lib.hid eE
  have HCN := Lib.hid (show ∀ W, Same w18 W → Calls Tryz.prog 24 #[.pointer (some ⟨m, 0, none⟩)] W fun e w' => e = .returned (.int .i64 2) ∧ Same W w' from fun W M => by
    have := count_md (HM18.out.same M) GGF.out WF.out
    rw [show countS SF = 2 by rw [eS7]; exact eCnt] at this
    exact this)
  subst eA eB eC eD
  rw [eE] at BE18
  have HK := Lib.hid (show ∀ W, Same w18 W → (W.cell? ⟨xA, 0, none⟩ = some (.int .i64 0) ∧ W.cell? ⟨xB, 0, none⟩ = some (.int .i64 0) ∧ W.cell? ⟨xC, 0, none⟩ = some (.int .i64 0) ∧ W.cell? ⟨xD, 0, none⟩ = some (.int .i64 0) ∧ W.cell? ⟨xE, 1, none⟩ = some (.string ⟨(zero16 ++ T16 5).toArray⟩) ∧ W.cell? ⟨xF, 2, none⟩ = some (.slice (some ⟨gv, 0, none⟩) 2 ucF) ∧ W.cell? ⟨gv, 9, none⟩ = some (.int .i64 1)) from fun W M =>
    ⟨(BA18.out.mod M (fun q => q)).at_ (i := 0) _ rfl, (BB18.out.mod M (fun q => q)).at_ (i := 0) _ rfl, (BC18.out.mod M (fun q => q)).at_ (i := 0) _ rfl, (BD18.out.mod M (fun q => q)).at_ (i := 0) _ rfl, (BE18.out.mod M (fun q => q)).at_ (i := 1) _ rfl, (BF18.out.mod M (fun q => q)).at_ (i := 2) _ rfl, (M.cell (Nat.lt_of_lt_of_le hrow.lt N18.out.size) (fun q => q) 9).trans c9w.out⟩)
  have hS := HK.out w18 (Mod.refl _ _)
  have hmk := make16
  have hcat := cat5
  have hcv1 := conv_new w18
  have hcv2 := conv_newD w18
  rw [eW]
  clear eE eT eS7 eS6 eCnt eInf HTV hown hrow TVA TVB TVC TVD TVE TVF
  go_wp2_with fail
  refine wp_region_held_drew (S := (fun W => W.cell? ⟨xA, 0, none⟩ = some (.int .i64 0) ∧ W.cell? ⟨xB, 0, none⟩ = some (.int .i64 0) ∧ W.cell? ⟨xC, 0, none⟩ = some (.int .i64 0) ∧ W.cell? ⟨xD, 0, none⟩ = some (.int .i64 0) ∧ W.cell? ⟨xE, 1, none⟩ = some (.string ⟨(zero16 ++ T16 5).toArray⟩) ∧ W.cell? ⟨xF, 2, none⟩ = some (.slice (some ⟨gv, 0, none⟩) 2 ucF) ∧ W.cell? ⟨gv, 9, none⟩ = some (.int .i64 1))) (by kernel_rfl) (by (try dsimp only); exact HK.out _ ((Mod.refl _ _).drew)) (fun hHeld => ?_)
  refine wpAnyH_take (i := 0) (v := ?_) rfl (by kernel_rfl) (by kernel_rfl) (by kernel_rfl) (fun _ _ _ h => h) (Or.inl ⟨by rfl, ?_⟩) (by assumption) ?_
  rotate_left
  · intro w hSw
    try dsimp only at hSw
    go_simp
    try with_reducible rfl
  try simp only [List.getElem_toArray, List.getElem_cons_succ, List.getElem_cons_zero, Act.put, List.setIfInBounds_toArray, List.set_cons_zero, List.set_cons_succ]
  refine wpAnyH_take (i := 1) (v := ?_) rfl (by kernel_rfl) (by kernel_rfl) (by kernel_rfl) (fun _ _ _ h => h) (Or.inl ⟨by rfl, ?_⟩) (by assumption) ?_
  rotate_left
  · intro w hSw
    try dsimp only at hSw
    obtain ⟨s1, s2, s3, s4, s5, s6, s7⟩ := hSw
    go_simp
    try with_reducible rfl
  try simp only [List.getElem_toArray, List.getElem_cons_succ, List.getElem_cons_zero, Act.put, List.setIfInBounds_toArray, List.set_cons_zero, List.set_cons_succ]
  refine wpAnyH_take (i := 2) (v := ?_) rfl (by kernel_rfl) (by kernel_rfl) (by kernel_rfl) (fun _ _ _ h => h) (Or.inl ⟨by rfl, ?_⟩) (by assumption) ?_
  rotate_left
  · intro w hSw
    try dsimp only at hSw
    go_simp
    try with_reducible rfl
  try simp only [List.getElem_toArray, List.getElem_cons_succ, List.getElem_cons_zero, Act.put, List.setIfInBounds_toArray, List.set_cons_zero, List.set_cons_succ]
  refine wpAnyH_take (i := 3) (v := ?_) rfl (by kernel_rfl) (by kernel_rfl) (by kernel_rfl) (fun _ _ _ h => h) (Or.inl ⟨by rfl, ?_⟩) (by assumption) ?_
  rotate_left
  · intro w hSw
    try dsimp only at hSw
    go_simp
    try with_reducible rfl
  try simp only [List.getElem_toArray, List.getElem_cons_succ, List.getElem_cons_zero, Act.put, List.setIfInBounds_toArray, List.set_cons_zero, List.set_cons_succ]
  refine wpAnyH_take (i := 4) (v := ?_) rfl (by kernel_rfl) (by kernel_rfl) (by kernel_rfl) (fun _ _ _ h => h) (Or.inl ⟨by rfl, ?_⟩) (by assumption) ?_
  rotate_left
  · intro w hSw
    try dsimp only at hSw
    go_simp
    try with_reducible rfl
  try simp only [List.getElem_toArray, List.getElem_cons_succ, List.getElem_cons_zero, Act.put, List.setIfInBounds_toArray, List.set_cons_zero, List.set_cons_succ]
  refine wpAnyH_take (i := 5) (v := ?_) rfl (by kernel_rfl) (by kernel_rfl) (by kernel_rfl) (fun _ _ _ h => h) (Or.inl ⟨by rfl, ?_⟩) (by assumption) ?_
  rotate_left
  · intro w hSw
    try dsimp only at hSw
    obtain ⟨s1, s2, s3, s4, s5, s6, s7⟩ := hSw
    go_simp
    try with_reducible rfl
  try simp only [List.getElem_toArray, List.getElem_cons_succ, List.getElem_cons_zero, Act.put, List.setIfInBounds_toArray, List.set_cons_zero, List.set_cons_succ]
  refine wpAnyH_take (i := 6) (v := ?_) rfl (by kernel_rfl) (by kernel_rfl) (by kernel_rfl) (fun _ _ _ h => h) (Or.inl ⟨by rfl, ?_⟩) (by assumption) ?_
  rotate_left
  · intro w hSw
    try dsimp only at hSw
    go_simp
    try with_reducible rfl
  try simp only [List.getElem_toArray, List.getElem_cons_succ, List.getElem_cons_zero, Act.put, List.setIfInBounds_toArray, List.set_cons_zero, List.set_cons_succ]
  refine wpAnyH_take (i := 7) (v := ?_) rfl (by kernel_rfl) (by kernel_rfl) (by kernel_rfl) (fun _ _ _ h => h) (Or.inl ⟨by rfl, ?_⟩) (by assumption) ?_
  rotate_left
  · intro w hSw
    try dsimp only at hSw
    go_simp
    try with_reducible rfl
  try simp only [List.getElem_toArray, List.getElem_cons_succ, List.getElem_cons_zero, Act.put, List.setIfInBounds_toArray, List.set_cons_zero, List.set_cons_succ]
  refine wpAnyH_take (i := 8) (v := ?_) rfl (by kernel_rfl) (by kernel_rfl) (by kernel_rfl) (fun _ _ _ h => h) (Or.inl ⟨by rfl, ?_⟩) (by assumption) ?_
  rotate_left
  · intro w hSw
    try dsimp only at hSw
    go_simp
    try with_reducible rfl
  try simp only [List.getElem_toArray, List.getElem_cons_succ, List.getElem_cons_zero, Act.put, List.setIfInBounds_toArray, List.set_cons_zero, List.set_cons_succ]
  refine wpAnyH_take (i := 9) (v := ?_) rfl (by kernel_rfl) (by kernel_rfl) (by kernel_rfl) (fun _ _ _ h => h) (Or.inl ⟨by rfl, ?_⟩) (by assumption) ?_
  rotate_left
  · intro w hSw
    try dsimp only at hSw
    go_simp
    try with_reducible rfl
  try simp only [List.getElem_toArray, List.getElem_cons_succ, List.getElem_cons_zero, Act.put, List.setIfInBounds_toArray, List.set_cons_zero, List.set_cons_succ]
  refine wpAnyH_take (i := 10) (v := ?_) rfl (by kernel_rfl) (by kernel_rfl) (by kernel_rfl) (fun _ _ _ h => h) (Or.inl ⟨by rfl, ?_⟩) (by assumption) ?_
  rotate_left
  · intro w hSw
    try dsimp only at hSw
    obtain ⟨s1, s2, s3, s4, s5, s6, s7⟩ := hSw
    go_simp
    try with_reducible rfl
  try simp only [List.getElem_toArray, List.getElem_cons_succ, List.getElem_cons_zero, Act.put, List.setIfInBounds_toArray, List.set_cons_zero, List.set_cons_succ]
  refine wpAnyH_take (i := 11) (v := ?_) rfl (by kernel_rfl) (by kernel_rfl) (by kernel_rfl) (fun _ _ _ h => h) (Or.inl ⟨by rfl, ?_⟩) (by assumption) ?_
  rotate_left
  · intro w hSw
    try dsimp only at hSw
    go_simp
    try with_reducible rfl
  try simp only [List.getElem_toArray, List.getElem_cons_succ, List.getElem_cons_zero, Act.put, List.setIfInBounds_toArray, List.set_cons_zero, List.set_cons_succ]
  refine wpAnyH_take (i := 12) (v := ?_) rfl (by kernel_rfl) (by kernel_rfl) (by kernel_rfl) (fun _ _ _ h => h) (Or.inl ⟨by rfl, ?_⟩) (by assumption) ?_
  rotate_left
  · intro w hSw
    try dsimp only at hSw
    go_simp
    try with_reducible rfl
  try simp only [List.getElem_toArray, List.getElem_cons_succ, List.getElem_cons_zero, Act.put, List.setIfInBounds_toArray, List.set_cons_zero, List.set_cons_succ]
  refine wpAnyH_take (i := 13) (v := ?_) rfl (by kernel_rfl) (by kernel_rfl) (by kernel_rfl) (fun _ _ _ h => h) (Or.inl ⟨by rfl, ?_⟩) (by assumption) ?_
  rotate_left
  · intro w hSw
    try dsimp only at hSw
    go_simp
    try with_reducible rfl
  try simp only [List.getElem_toArray, List.getElem_cons_succ, List.getElem_cons_zero, Act.put, List.setIfInBounds_toArray, List.set_cons_zero, List.set_cons_succ]
  refine wpAnyH_take (i := 14) (v := ?_) rfl (by kernel_rfl) (by kernel_rfl) (by kernel_rfl) (fun _ _ _ h => h) (Or.inl ⟨by rfl, ?_⟩) (by assumption) ?_
  rotate_left
  · intro w hSw
    try dsimp only at hSw
    go_simp
    try with_reducible rfl
  try simp only [List.getElem_toArray, List.getElem_cons_succ, List.getElem_cons_zero, Act.put, List.setIfInBounds_toArray, List.set_cons_zero, List.set_cons_succ]
  refine wpAnyH_take (i := 15) (v := ?_) rfl (by kernel_rfl) (by kernel_rfl) (by kernel_rfl) (fun _ _ _ h => h) (Or.inl ⟨by rfl, ?_⟩) (by assumption) ?_
  rotate_left
  · intro w hSw
    try dsimp only at hSw
    go_simp
    try with_reducible rfl
  try simp only [List.getElem_toArray, List.getElem_cons_succ, List.getElem_cons_zero, Act.put, List.setIfInBounds_toArray, List.set_cons_zero, List.set_cons_succ]
  refine wpAnyH_take (i := 16) (v := ?_) rfl (by kernel_rfl) (by kernel_rfl) (by kernel_rfl) (fun _ _ _ h => h) (Or.inl ⟨by rfl, ?_⟩) (by assumption) ?_
  rotate_left
  · intro w hSw
    try dsimp only at hSw
    go_simp
    try with_reducible rfl
  try simp only [List.getElem_toArray, List.getElem_cons_succ, List.getElem_cons_zero, Act.put, List.setIfInBounds_toArray, List.set_cons_zero, List.set_cons_succ]
  refine wpAnyH_take (i := 17) (v := ?_) rfl (by kernel_rfl) (by kernel_rfl) (by kernel_rfl) (fun _ _ _ h => h) (Or.inl ⟨by rfl, ?_⟩) (by assumption) ?_
  rotate_left
  · intro w hSw
    try dsimp only at hSw
    go_simp
    try with_reducible rfl
  try simp only [List.getElem_toArray, List.getElem_cons_succ, List.getElem_cons_zero, Act.put, List.setIfInBounds_toArray, List.set_cons_zero, List.set_cons_succ]
  refine wpAnyH_take (i := 18) (v := ?_) rfl (by kernel_rfl) (by kernel_rfl) (by kernel_rfl) (fun _ _ _ h => h) (Or.inl ⟨by rfl, ?_⟩) (by assumption) ?_
  rotate_left
  · intro w hSw
    try dsimp only at hSw
    go_simp
    try with_reducible rfl
  try simp only [List.getElem_toArray, List.getElem_cons_succ, List.getElem_cons_zero, Act.put, List.setIfInBounds_toArray, List.set_cons_zero, List.set_cons_succ]
  refine wpAnyH_take (i := 19) (v := ?_) rfl (by kernel_rfl) (by kernel_rfl) (by kernel_rfl) (fun _ _ _ h => h) (Or.inl ⟨by rfl, ?_⟩) (by assumption) ?_
  rotate_left
  · intro w hSw
    try dsimp only at hSw
    obtain ⟨s1, s2, s3, s4, s5, s6, s7⟩ := hSw
    go_simp
    try with_reducible rfl
  try simp only [List.getElem_toArray, List.getElem_cons_succ, List.getElem_cons_zero, Act.put, List.setIfInBounds_toArray, List.set_cons_zero, List.set_cons_succ]
  refine wpAnyH_take (i := 20) (v := ?_) rfl (by kernel_rfl) (by kernel_rfl) (by kernel_rfl) (fun _ _ _ h => h) (Or.inl ⟨by rfl, ?_⟩) (by assumption) ?_
  rotate_left
  · intro w hSw
    try dsimp only at hSw
    go_simp
    try with_reducible rfl
  try simp only [List.getElem_toArray, List.getElem_cons_succ, List.getElem_cons_zero, Act.put, List.setIfInBounds_toArray, List.set_cons_zero, List.set_cons_succ]
  refine wpAnyH_take (i := 21) (v := ?_) rfl (by kernel_rfl) (by kernel_rfl) (by kernel_rfl) (fun _ _ _ h => h) (Or.inl ⟨by rfl, ?_⟩) (by assumption) ?_
  rotate_left
  · intro w hSw
    try dsimp only at hSw
    go_simp
    try with_reducible rfl
  try simp only [List.getElem_toArray, List.getElem_cons_succ, List.getElem_cons_zero, Act.put, List.setIfInBounds_toArray, List.set_cons_zero, List.set_cons_succ]
  refine wpAnyH_take (i := 22) (v := ?_) rfl (by kernel_rfl) (by kernel_rfl) (by kernel_rfl) (fun _ _ _ h => h) (Or.inl ⟨by rfl, ?_⟩) (by assumption) ?_
  rotate_left
  · intro w hSw
    try dsimp only at hSw
    go_simp
    try with_reducible rfl
  try simp only [List.getElem_toArray, List.getElem_cons_succ, List.getElem_cons_zero, Act.put, List.setIfInBounds_toArray, List.set_cons_zero, List.set_cons_succ]
  refine wpAnyH_take (i := 23) (v := ?_) rfl (by kernel_rfl) (by kernel_rfl) (by kernel_rfl) (fun _ _ _ h => h) (Or.inl ⟨by rfl, ?_⟩) (by assumption) ?_
  rotate_left
  · intro w hSw
    try dsimp only at hSw
    go_simp
    try with_reducible rfl
  try simp only [List.getElem_toArray, List.getElem_cons_succ, List.getElem_cons_zero, Act.put, List.setIfInBounds_toArray, List.set_cons_zero, List.set_cons_succ]
  refine wpAnyH_take (i := 24) (v := ?_) rfl (by kernel_rfl) (by kernel_rfl) (by kernel_rfl) (fun _ _ _ h => h) (Or.inl ⟨by rfl, ?_⟩) (by assumption) ?_
  rotate_left
  · intro w hSw
    try dsimp only at hSw
    obtain ⟨s1, s2, s3, s4, s5, s6, s7⟩ := hSw
    go_simp
    try with_reducible rfl
  try simp only [List.getElem_toArray, List.getElem_cons_succ, List.getElem_cons_zero, Act.put, List.setIfInBounds_toArray, List.set_cons_zero, List.set_cons_succ]
  refine wpAnyH_ready (rs := [25, 27]) (by kernel_rfl) (by simp) ?_
  refine AllReadyH.cons rfl (fun Kc hKc => ?_) (AllReadyH.cons rfl (fun Kc hKc => ?_) (AllReadyH.nil))
  · go_simp
    refine hKc.out _ _ (by (try dsimp only); exact HK.out _ (((Mod.refl _ _).alloc _).drew)) (fun hHeld => ?_)
    clear hKc Kc
    try simp only [List.getElem_toArray, List.getElem_cons_succ, List.getElem_cons_zero, Act.put, List.setIfInBounds_toArray, List.set_cons_zero, List.set_cons_succ]
    refine wpAnyH_ready (rs := [26, 27]) (by kernel_rfl) (by simp) ?_
    refine AllReadyH.cons rfl (fun Kc hKc => ?_) (AllReadyH.cons rfl (fun Kc hKc => ?_) (AllReadyH.nil))
    · go_simp
      refine hKc.out _ _ (by (try dsimp only); exact hHeld) (fun hHeld => ?_)
      clear hKc Kc
      try simp only [List.getElem_toArray, List.getElem_cons_succ, List.getElem_cons_zero, Act.put, List.setIfInBounds_toArray, List.set_cons_zero, List.set_cons_succ]
      refine wpAnyH_ready (rs := [27]) (by kernel_rfl) (by simp) ?_
      refine AllReadyH.cons rfl (fun Kc hKc => ?_) AllReadyH.nil
      try go_simp
      go_at_call 28
      refine (fill5 _).mono ?_
      rintro e wa ⟨rfl, MA⟩
      have JA := Lib.hid (show Same w18 wa from (((Mod.refl _ w18).alloc _).drew).same MA)
      have hcv3 := conv_row wa w18.heap.size ((Blk.new w18 Z16 5).drew.mod MA (fun q => q))
      clear MA
      refine hKc.out _ _ (by (try dsimp only); exact HK.out _ JA.out) (fun hHeld => ?_)
      clear hKc Kc
      try simp only [List.getElem_toArray, List.getElem_cons_succ, List.getElem_cons_zero, Act.put, List.setIfInBounds_toArray, List.set_cons_zero, List.set_cons_succ]
      refine wpAnyH_take (i := 28) (v := ?_) rfl (by kernel_rfl) (by kernel_rfl) (by kernel_rfl) (fun _ _ _ h => h) (Or.inl ⟨by rfl, ?_⟩) (by assumption) ?_
      rotate_left
      · intro w hSw
        try dsimp only at hSw
        have hcat := cat5
        go_simp
        try with_reducible rfl
      try simp only [List.getElem_toArray, List.getElem_cons_succ, List.getElem_cons_zero, Act.put, List.setIfInBounds_toArray, List.set_cons_zero, List.set_cons_succ]
      refine wpAnyH_take (i := 29) (v := ?_) rfl (by kernel_rfl) (by kernel_rfl) (by kernel_rfl) (fun _ _ _ h => h) (Or.inl ⟨by rfl, ?_⟩) (by assumption) ?_
      rotate_left
      · intro w hSw
        try dsimp only at hSw
        have hcat := cat5
        go_simp
        try with_reducible rfl
      try simp only [List.getElem_toArray, List.getElem_cons_succ, List.getElem_cons_zero, Act.put, List.setIfInBounds_toArray, List.set_cons_zero, List.set_cons_succ]
      refine wpAnyH_take (i := 30) (v := ?_) rfl (by kernel_rfl) (by kernel_rfl) (by kernel_rfl) (fun _ _ _ h => h) (Or.inl ⟨by rfl, ?_⟩) (by assumption) ?_
      rotate_left
      · intro w hSw
        try dsimp only at hSw
        go_simp
        try with_reducible rfl
      try simp only [List.getElem_toArray, List.getElem_cons_succ, List.getElem_cons_zero, Act.put, List.setIfInBounds_toArray, List.set_cons_zero, List.set_cons_succ]
      refine wpAnyH_take (i := 31) (v := ?_) rfl (by kernel_rfl) (by kernel_rfl) (by kernel_rfl) (fun _ _ _ h => h) (Or.inl ⟨by rfl, ?_⟩) (by assumption) ?_
      rotate_left
      · intro w hSw
        try dsimp only at hSw
        go_simp
        try with_reducible rfl
      try simp only [List.getElem_toArray, List.getElem_cons_succ, List.getElem_cons_zero, Act.put, List.setIfInBounds_toArray, List.set_cons_zero, List.set_cons_succ]
      refine wpAnyH_take (i := 32) (v := ?_) rfl (by kernel_rfl) (by kernel_rfl) (by kernel_rfl) (fun _ _ _ h => h) (Or.inl ⟨by rfl, ?_⟩) (by assumption) ?_
      rotate_left
      · intro w hSw
        try dsimp only at hSw
        go_simp
        try with_reducible rfl
      try simp only [List.getElem_toArray, List.getElem_cons_succ, List.getElem_cons_zero, Act.put, List.setIfInBounds_toArray, List.set_cons_zero, List.set_cons_succ]
      refine wpAnyH_ready (rs := [33]) (by kernel_rfl) (by simp) ?_
      refine AllReadyH.cons rfl (fun Kc hKc => ?_) AllReadyH.nil
      try go_simp
      go_at_call 24
      refine (HCN.out _ JA.out).mono ?_
      rintro e wb ⟨rfl, MA⟩
      have JB := Lib.hid (JA.out.same MA)
      clear MA
      refine hKc.out _ _ (by (try dsimp only); exact HK.out _ JB.out) (fun hHeld => ?_)
      clear hKc Kc
      try simp only [List.getElem_toArray, List.getElem_cons_succ, List.getElem_cons_zero, Act.put, List.setIfInBounds_toArray, List.set_cons_zero, List.set_cons_succ]
      refine wpAnyH_take (i := 34) (v := ?_) rfl (by kernel_rfl) (by kernel_rfl) (by kernel_rfl) (fun _ _ _ h => h) (Or.inl ⟨by rfl, ?_⟩) (by assumption) ?_
      rotate_left
      · intro w hSw
        try dsimp only at hSw
        go_simp
        try with_reducible rfl
      try simp only [List.getElem_toArray, List.getElem_cons_succ, List.getElem_cons_zero, Act.put, List.setIfInBounds_toArray, List.set_cons_zero, List.set_cons_succ]
      refine wpAnyH_take (i := 35) (v := ?_) rfl (by kernel_rfl) (by kernel_rfl) (by kernel_rfl) (fun _ _ _ h => h) (Or.inl ⟨by rfl, ?_⟩) (by assumption) ?_
      rotate_left
      · intro w hSw
        try dsimp only at hSw
        go_simp
        try with_reducible rfl
      try simp only [List.getElem_toArray, List.getElem_cons_succ, List.getElem_cons_zero, Act.put, List.setIfInBounds_toArray, List.set_cons_zero, List.set_cons_succ]
      refine wpAnyH_take (i := 36) (v := ?_) rfl (by kernel_rfl) (by kernel_rfl) (by kernel_rfl) (fun _ _ _ h => h) (Or.inl ⟨by rfl, ?_⟩) (by assumption) ?_
      rotate_left
      · intro w hSw
        try dsimp only at hSw
        go_simp
        try with_reducible rfl
      try simp only [List.getElem_toArray, List.getElem_cons_succ, List.getElem_cons_zero, Act.put, List.setIfInBounds_toArray, List.set_cons_zero, List.set_cons_succ]
      refine wpAnyH_take (i := 37) (v := ?_) rfl (by kernel_rfl) (by kernel_rfl) (by kernel_rfl) (fun _ _ _ h => h) (Or.inl ⟨by rfl, ?_⟩) (by assumption) ?_
      rotate_left
      · intro w hSw
        try dsimp only at hSw
        go_simp
        try with_reducible rfl
      try simp only [List.getElem_toArray, List.getElem_cons_succ, List.getElem_cons_zero, Act.put, List.setIfInBounds_toArray, List.set_cons_zero, List.set_cons_succ]
      refine wpAnyH_take (i := 38) (v := ?_) rfl (by kernel_rfl) (by kernel_rfl) (by kernel_rfl) (fun _ _ _ h => h) (Or.inl ⟨by rfl, ?_⟩) (by assumption) ?_
      rotate_left
      · intro w hSw
        try dsimp only at hSw
        obtain ⟨s1, s2, s3, s4, s5, s6, s7⟩ := hSw
        go_simp
        try with_reducible rfl
      try simp only [List.getElem_toArray, List.getElem_cons_succ, List.getElem_cons_zero, Act.put, List.setIfInBounds_toArray, List.set_cons_zero, List.set_cons_succ]
      refine wpAnyH_take (i := 39) (v := ?_) rfl (by kernel_rfl) (by kernel_rfl) (by kernel_rfl) (fun _ _ _ h => h) (Or.inl ⟨by rfl, ?_⟩) (by assumption) ?_
      rotate_left
      · intro w hSw
        try dsimp only at hSw
        go_simp
        try with_reducible rfl
      try simp only [List.getElem_toArray, List.getElem_cons_succ, List.getElem_cons_zero, Act.put, List.setIfInBounds_toArray, List.set_cons_zero, List.set_cons_succ]
      refine wpAnyH_take (i := 40) (v := ?_) rfl (by kernel_rfl) (by kernel_rfl) (by kernel_rfl) (fun _ _ _ h => h) (Or.inl ⟨by rfl, ?_⟩) (by assumption) ?_
      rotate_left
      · intro w hSw
        try dsimp only at hSw
        go_simp
        try with_reducible rfl
      try simp only [List.getElem_toArray, List.getElem_cons_succ, List.getElem_cons_zero, Act.put, List.setIfInBounds_toArray, List.set_cons_zero, List.set_cons_succ]
      refine wpAnyH_take (i := 41) (v := ?_) rfl (by kernel_rfl) (by kernel_rfl) (by kernel_rfl) (fun _ _ _ h => h) (Or.inl ⟨by rfl, ?_⟩) (by assumption) ?_
      rotate_left
      · intro w hSw
        try dsimp only at hSw
        go_simp
        try with_reducible rfl
      try simp only [List.getElem_toArray, List.getElem_cons_succ, List.getElem_cons_zero, Act.put, List.setIfInBounds_toArray, List.set_cons_zero, List.set_cons_succ]
      refine wpAnyH_take (i := 42) (v := ?_) rfl (by kernel_rfl) (by kernel_rfl) (by kernel_rfl) (fun _ _ _ h => h) (Or.inl ⟨by rfl, ?_⟩) (by assumption) ?_
      rotate_left
      · intro w hSw
        try dsimp only at hSw
        go_simp
        try with_reducible rfl
      try simp only [List.getElem_toArray, List.getElem_cons_succ, List.getElem_cons_zero, Act.put, List.setIfInBounds_toArray, List.set_cons_zero, List.set_cons_succ]
      refine wpAnyH_take (i := 43) (v := ?_) rfl (by kernel_rfl) (by kernel_rfl) (by kernel_rfl) (fun _ _ _ h => h) (Or.inl ⟨by rfl, ?_⟩) (by assumption) ?_
      rotate_left
      · intro w hSw
        try dsimp only at hSw
        go_simp
        try with_reducible rfl
      try simp only [List.getElem_toArray, List.getElem_cons_succ, List.getElem_cons_zero, Act.put, List.setIfInBounds_toArray, List.set_cons_zero, List.set_cons_succ]
      refine wpAnyH_take (i := 44) (v := ?_) rfl (by kernel_rfl) (by kernel_rfl) (by kernel_rfl) (fun _ _ _ h => h) (Or.inl ⟨by rfl, ?_⟩) (by assumption) ?_
      rotate_left
      · intro w hSw
        try dsimp only at hSw
        obtain ⟨s1, s2, s3, s4, s5, s6, s7⟩ := hSw
        go_simp
        try with_reducible rfl
      try simp only [List.getElem_toArray, List.getElem_cons_succ, List.getElem_cons_zero, Act.put, List.setIfInBounds_toArray, List.set_cons_zero, List.set_cons_succ]
      refine wpAnyH_take (i := 45) (v := ?_) rfl (by kernel_rfl) (by kernel_rfl) (by kernel_rfl) (fun _ _ _ h => h) (Or.inl ⟨by rfl, ?_⟩) (by assumption) ?_
      rotate_left
      · intro w hSw
        try dsimp only at hSw
        go_simp
        try with_reducible rfl
      try simp only [List.getElem_toArray, List.getElem_cons_succ, List.getElem_cons_zero, Act.put, List.setIfInBounds_toArray, List.set_cons_zero, List.set_cons_succ]
      refine wpAnyH_take (i := 46) (v := ?_) rfl (by kernel_rfl) (by kernel_rfl) (by kernel_rfl) (fun _ _ _ h => h) (Or.inl ⟨by rfl, ?_⟩) (by assumption) ?_
      rotate_left
      · intro w hSw
        try dsimp only at hSw
        go_simp
        try with_reducible rfl
      try simp only [List.getElem_toArray, List.getElem_cons_succ, List.getElem_cons_zero, Act.put, List.setIfInBounds_toArray, List.set_cons_zero, List.set_cons_succ]
      refine wpAnyH_take (i := 47) (v := ?_) rfl (by kernel_rfl) (by kernel_rfl) (by kernel_rfl) (fun _ _ _ h => h) (Or.inl ⟨by rfl, ?_⟩) (by assumption) ?_
      rotate_left
      · intro w hSw
        try dsimp only at hSw
        obtain ⟨s1, s2, s3, s4, s5, s6, s7⟩ := hSw
        go_simp
        try with_reducible rfl
      try simp only [List.getElem_toArray, List.getElem_cons_succ, List.getElem_cons_zero, Act.put, List.setIfInBounds_toArray, List.set_cons_zero, List.set_cons_succ]
      refine wpAnyH_take (i := 48) (v := ?_) rfl (by kernel_rfl) (by kernel_rfl) (by kernel_rfl) (fun _ _ _ h => h) (Or.inl ⟨by rfl, ?_⟩) (by assumption) ?_
      rotate_left
      · intro w hSw
        try dsimp only at hSw
        go_simp
        try with_reducible rfl
      try simp only [List.getElem_toArray, List.getElem_cons_succ, List.getElem_cons_zero, Act.put, List.setIfInBounds_toArray, List.set_cons_zero, List.set_cons_succ]
      refine wpAnyH_take (i := 49) (v := ?_) rfl (by kernel_rfl) (by kernel_rfl) (by kernel_rfl) (fun _ _ _ h => h) (Or.inl ⟨by rfl, ?_⟩) (by assumption) ?_
      rotate_left
      · intro w hSw
        try dsimp only at hSw
        go_simp
        try with_reducible rfl
      try simp only [List.getElem_toArray, List.getElem_cons_succ, List.getElem_cons_zero, Act.put, List.setIfInBounds_toArray, List.set_cons_zero, List.set_cons_succ]
      refine wpAnyH_take (i := 50) (v := ?_) rfl (by kernel_rfl) (by kernel_rfl) (by kernel_rfl) (fun _ _ _ h => h) (Or.inl ⟨by rfl, ?_⟩) (by assumption) ?_
      rotate_left
      · intro w hSw
        try dsimp only at hSw
        go_simp
        try with_reducible rfl
      try simp only [List.getElem_toArray, List.getElem_cons_succ, List.getElem_cons_zero, Act.put, List.setIfInBounds_toArray, List.set_cons_zero, List.set_cons_succ]
      refine wpAnyH_take (i := 51) (v := ?_) rfl (by kernel_rfl) (by kernel_rfl) (by kernel_rfl) (fun _ _ _ h => h) (Or.inl ⟨by rfl, ?_⟩) (by assumption) ?_
      rotate_left
      · intro w hSw
        try dsimp only at hSw
        go_simp
        try with_reducible rfl
      try simp only [List.getElem_toArray, List.getElem_cons_succ, List.getElem_cons_zero, Act.put, List.setIfInBounds_toArray, List.set_cons_zero, List.set_cons_succ]
      refine wpAnyH_ready (rs := [52]) (by kernel_rfl) (by simp) ?_
      refine AllReadyH.cons rfl (fun Kc hKc => ?_) AllReadyH.nil
      try go_simp
      go_at_call 20
      refine (do_none _ m).mono ?_
      rintro e wc ⟨rfl, MA⟩
      have JC := Lib.hid (JB.out.same MA)
      clear MA
      refine hKc.out _ _ (by (try dsimp only); exact HK.out _ JC.out) (fun hHeld => ?_)
      clear hKc Kc
      try simp only [List.getElem_toArray, List.getElem_cons_succ, List.getElem_cons_zero, Act.put, List.setIfInBounds_toArray, List.set_cons_zero, List.set_cons_succ]
      refine wpAnyH_take (i := 53) (v := ?_) rfl (by kernel_rfl) (by kernel_rfl) (by kernel_rfl) (fun _ _ _ h => h) (Or.inl ⟨by rfl, ?_⟩) (by assumption) ?_
      rotate_left
      · intro w hSw
        try dsimp only at hSw
        go_simp
        try with_reducible rfl
      try simp only [List.getElem_toArray, List.getElem_cons_succ, List.getElem_cons_zero, Act.put, List.setIfInBounds_toArray, List.set_cons_zero, List.set_cons_succ]
      refine wpAnyH_take (i := 54) (v := ?_) rfl (by kernel_rfl) (by kernel_rfl) (by kernel_rfl) (fun _ _ _ h => h) (Or.inl ⟨by rfl, ?_⟩) (by assumption) ?_
      rotate_left
      · intro w hSw
        try dsimp only at hSw
        go_simp
        try with_reducible rfl
      try simp only [List.getElem_toArray, List.getElem_cons_succ, List.getElem_cons_zero, Act.put, List.setIfInBounds_toArray, List.set_cons_zero, List.set_cons_succ]
      refine wpAnyH_take (i := 55) (v := ?_) rfl (by kernel_rfl) (by kernel_rfl) (by kernel_rfl) (fun _ _ _ h => h) (Or.inl ⟨by rfl, ?_⟩) (by assumption) ?_
      rotate_left
      · intro w hSw
        try dsimp only at hSw
        go_simp
        try with_reducible rfl
      try simp only [List.getElem_toArray, List.getElem_cons_succ, List.getElem_cons_zero, Act.put, List.setIfInBounds_toArray, List.set_cons_zero, List.set_cons_succ]
      refine wpAnyH_take (i := 56) (v := ?_) rfl (by kernel_rfl) (by kernel_rfl) (by kernel_rfl) (fun _ _ _ h => h) (Or.inl ⟨by rfl, ?_⟩) (by assumption) ?_
      rotate_left
      · intro w hSw
        try dsimp only at hSw
        go_simp
        try with_reducible rfl
      try simp only [List.getElem_toArray, List.getElem_cons_succ, List.getElem_cons_zero, Act.put, List.setIfInBounds_toArray, List.set_cons_zero, List.set_cons_succ]
      refine wpAnyH_done (by kernel_rfl) ?_ _
      go_wp2_with fail
      exact HR.out _ _ ⟨rfl, J18.out.same JC.out⟩
    · try go_simp
      go_at_call 28
      refine (fill5 _).mono ?_
      rintro e wa ⟨rfl, MA⟩
      have JA := Lib.hid (show Same w18 wa from (((Mod.refl _ w18).alloc _).drew).same MA)
      have hcv3 := conv_row wa w18.heap.size ((Blk.new w18 Z16 5).drew.mod MA (fun q => q))
      clear MA
      refine hKc.out _ _ (by (try dsimp only); exact HK.out _ JA.out) (fun hHeld => ?_)
      clear hKc Kc
      try simp only [List.getElem_toArray, List.getElem_cons_succ, List.getElem_cons_zero, Act.put, List.setIfInBounds_toArray, List.set_cons_zero, List.set_cons_succ]
      refine wpAnyH_ready (rs := [26]) (by kernel_rfl) (by simp) ?_
      refine AllReadyH.cons rfl (fun Kc hKc => ?_) AllReadyH.nil
      go_simp
      refine hKc.out _ _ (by (try dsimp only); exact hHeld) (fun hHeld => ?_)
      clear hKc Kc
      try simp only [List.getElem_toArray, List.getElem_cons_succ, List.getElem_cons_zero, Act.put, List.setIfInBounds_toArray, List.set_cons_zero, List.set_cons_succ]
      refine wpAnyH_take (i := 28) (v := ?_) rfl (by kernel_rfl) (by kernel_rfl) (by kernel_rfl) (fun _ _ _ h => h) (Or.inl ⟨by rfl, ?_⟩) (by assumption) ?_
      rotate_left
      · intro w hSw
        try dsimp only at hSw
        have hcat := cat5
        go_simp
        try with_reducible rfl
      try simp only [List.getElem_toArray, List.getElem_cons_succ, List.getElem_cons_zero, Act.put, List.setIfInBounds_toArray, List.set_cons_zero, List.set_cons_succ]
      refine wpAnyH_take (i := 29) (v := ?_) rfl (by kernel_rfl) (by kernel_rfl) (by kernel_rfl) (fun _ _ _ h => h) (Or.inl ⟨by rfl, ?_⟩) (by assumption) ?_
      rotate_left
      · intro w hSw
        try dsimp only at hSw
        have hcat := cat5
        go_simp
        try with_reducible rfl
      try simp only [List.getElem_toArray, List.getElem_cons_succ, List.getElem_cons_zero, Act.put, List.setIfInBounds_toArray, List.set_cons_zero, List.set_cons_succ]
      refine wpAnyH_take (i := 30) (v := ?_) rfl (by kernel_rfl) (by kernel_rfl) (by kernel_rfl) (fun _ _ _ h => h) (Or.inl ⟨by rfl, ?_⟩) (by assumption) ?_
      rotate_left
      · intro w hSw
        try dsimp only at hSw
        go_simp
        try with_reducible rfl
      try simp only [List.getElem_toArray, List.getElem_cons_succ, List.getElem_cons_zero, Act.put, List.setIfInBounds_toArray, List.set_cons_zero, List.set_cons_succ]
      refine wpAnyH_take (i := 31) (v := ?_) rfl (by kernel_rfl) (by kernel_rfl) (by kernel_rfl) (fun _ _ _ h => h) (Or.inl ⟨by rfl, ?_⟩) (by assumption) ?_
      rotate_left
      · intro w hSw
        try dsimp only at hSw
        go_simp
        try with_reducible rfl
      try simp only [List.getElem_toArray, List.getElem_cons_succ, List.getElem_cons_zero, Act.put, List.setIfInBounds_toArray, List.set_cons_zero, List.set_cons_succ]
      refine wpAnyH_take (i := 32) (v := ?_) rfl (by kernel_rfl) (by kernel_rfl) (by kernel_rfl) (fun _ _ _ h => h) (Or.inl ⟨by rfl, ?_⟩) (by assumption) ?_
      rotate_left
      · intro w hSw
        try dsimp only at hSw
        go_simp
        try with_reducible rfl
      try simp only [List.getElem_toArray, List.getElem_cons_succ, List.getElem_cons_zero, Act.put, List.setIfInBounds_toArray, List.set_cons_zero, List.set_cons_succ]
      refine wpAnyH_ready (rs := [33]) (by kernel_rfl) (by simp) ?_
      refine AllReadyH.cons rfl (fun Kc hKc => ?_) AllReadyH.nil
      try go_simp
      go_at_call 24
      refine (HCN.out _ JA.out).mono ?_
      rintro e wb ⟨rfl, MA⟩
      have JB := Lib.hid (JA.out.same MA)
      clear MA
      refine hKc.out _ _ (by (try dsimp only); exact HK.out _ JB.out) (fun hHeld => ?_)
      clear hKc Kc
      try simp only [List.getElem_toArray, List.getElem_cons_succ, List.getElem_cons_zero, Act.put, List.setIfInBounds_toArray, List.set_cons_zero, List.set_cons_succ]
      refine wpAnyH_take (i := 34) (v := ?_) rfl (by kernel_rfl) (by kernel_rfl) (by kernel_rfl) (fun _ _ _ h => h) (Or.inl ⟨by rfl, ?_⟩) (by assumption) ?_
      rotate_left
      · intro w hSw
        try dsimp only at hSw
        go_simp
        try with_reducible rfl
      try simp only [List.getElem_toArray, List.getElem_cons_succ, List.getElem_cons_zero, Act.put, List.setIfInBounds_toArray, List.set_cons_zero, List.set_cons_succ]
      refine wpAnyH_take (i := 35) (v := ?_) rfl (by kernel_rfl) (by kernel_rfl) (by kernel_rfl) (fun _ _ _ h => h) (Or.inl ⟨by rfl, ?_⟩) (by assumption) ?_
      rotate_left
      · intro w hSw
        try dsimp only at hSw
        go_simp
        try with_reducible rfl
      try simp only [List.getElem_toArray, List.getElem_cons_succ, List.getElem_cons_zero, Act.put, List.setIfInBounds_toArray, List.set_cons_zero, List.set_cons_succ]
      refine wpAnyH_take (i := 36) (v := ?_) rfl (by kernel_rfl) (by kernel_rfl) (by kernel_rfl) (fun _ _ _ h => h) (Or.inl ⟨by rfl, ?_⟩) (by assumption) ?_
      rotate_left
      · intro w hSw
        try dsimp only at hSw
        go_simp
        try with_reducible rfl
      try simp only [List.getElem_toArray, List.getElem_cons_succ, List.getElem_cons_zero, Act.put, List.setIfInBounds_toArray, List.set_cons_zero, List.set_cons_succ]
      refine wpAnyH_take (i := 37) (v := ?_) rfl (by kernel_rfl) (by kernel_rfl) (by kernel_rfl) (fun _ _ _ h => h) (Or.inl ⟨by rfl, ?_⟩) (by assumption) ?_
      rotate_left
      · intro w hSw
        try dsimp only at hSw
        go_simp
        try with_reducible rfl
      try simp only [List.getElem_toArray, List.getElem_cons_succ, List.getElem_cons_zero, Act.put, List.setIfInBounds_toArray, List.set_cons_zero, List.set_cons_succ]
      refine wpAnyH_take (i := 38) (v := ?_) rfl (by kernel_rfl) (by kernel_rfl) (by kernel_rfl) (fun _ _ _ h => h) (Or.inl ⟨by rfl, ?_⟩) (by assumption) ?_
      rotate_left
      · intro w hSw
        try dsimp only at hSw
        obtain ⟨s1, s2, s3, s4, s5, s6, s7⟩ := hSw
        go_simp
        try with_reducible rfl
      try simp only [List.getElem_toArray, List.getElem_cons_succ, List.getElem_cons_zero, Act.put, List.setIfInBounds_toArray, List.set_cons_zero, List.set_cons_succ]
      refine wpAnyH_take (i := 39) (v := ?_) rfl (by kernel_rfl) (by kernel_rfl) (by kernel_rfl) (fun _ _ _ h => h) (Or.inl ⟨by rfl, ?_⟩) (by assumption) ?_
      rotate_left
      · intro w hSw
        try dsimp only at hSw
        go_simp
        try with_reducible rfl
      try simp only [List.getElem_toArray, List.getElem_cons_succ, List.getElem_cons_zero, Act.put, List.setIfInBounds_toArray, List.set_cons_zero, List.set_cons_succ]
      refine wpAnyH_take (i := 40) (v := ?_) rfl (by kernel_rfl) (by kernel_rfl) (by kernel_rfl) (fun _ _ _ h => h) (Or.inl ⟨by rfl, ?_⟩) (by assumption) ?_
      rotate_left
      · intro w hSw
        try dsimp only at hSw
        go_simp
        try with_reducible rfl
      try simp only [List.getElem_toArray, List.getElem_cons_succ, List.getElem_cons_zero, Act.put, List.setIfInBounds_toArray, List.set_cons_zero, List.set_cons_succ]
      refine wpAnyH_take (i := 41) (v := ?_) rfl (by kernel_rfl) (by kernel_rfl) (by kernel_rfl) (fun _ _ _ h => h) (Or.inl ⟨by rfl, ?_⟩) (by assumption) ?_
      rotate_left
      · intro w hSw
        try dsimp only at hSw
        go_simp
        try with_reducible rfl
      try simp only [List.getElem_toArray, List.getElem_cons_succ, List.getElem_cons_zero, Act.put, List.setIfInBounds_toArray, List.set_cons_zero, List.set_cons_succ]
      refine wpAnyH_take (i := 42) (v := ?_) rfl (by kernel_rfl) (by kernel_rfl) (by kernel_rfl) (fun _ _ _ h => h) (Or.inl ⟨by rfl, ?_⟩) (by assumption) ?_
      rotate_left
      · intro w hSw
        try dsimp only at hSw
        go_simp
        try with_reducible rfl
      try simp only [List.getElem_toArray, List.getElem_cons_succ, List.getElem_cons_zero, Act.put, List.setIfInBounds_toArray, List.set_cons_zero, List.set_cons_succ]
      refine wpAnyH_take (i := 43) (v := ?_) rfl (by kernel_rfl) (by kernel_rfl) (by kernel_rfl) (fun _ _ _ h => h) (Or.inl ⟨by rfl, ?_⟩) (by assumption) ?_
      rotate_left
      · intro w hSw
        try dsimp only at hSw
        go_simp
        try with_reducible rfl
      try simp only [List.getElem_toArray, List.getElem_cons_succ, List.getElem_cons_zero, Act.put, List.setIfInBounds_toArray, List.set_cons_zero, List.set_cons_succ]
      refine wpAnyH_take (i := 44) (v := ?_) rfl (by kernel_rfl) (by kernel_rfl) (by kernel_rfl) (fun _ _ _ h => h) (Or.inl ⟨by rfl, ?_⟩) (by assumption) ?_
      rotate_left
      · intro w hSw
        try dsimp only at hSw
        obtain ⟨s1, s2, s3, s4, s5, s6, s7⟩ := hSw
        go_simp
        try with_reducible rfl
      try simp only [List.getElem_toArray, List.getElem_cons_succ, List.getElem_cons_zero, Act.put, List.setIfInBounds_toArray, List.set_cons_zero, List.set_cons_succ]
      refine wpAnyH_take (i := 45) (v := ?_) rfl (by kernel_rfl) (by kernel_rfl) (by kernel_rfl) (fun _ _ _ h => h) (Or.inl ⟨by rfl, ?_⟩) (by assumption) ?_
      rotate_left
      · intro w hSw
        try dsimp only at hSw
        go_simp
        try with_reducible rfl
      try simp only [List.getElem_toArray, List.getElem_cons_succ, List.getElem_cons_zero, Act.put, List.setIfInBounds_toArray, List.set_cons_zero, List.set_cons_succ]
      refine wpAnyH_take (i := 46) (v := ?_) rfl (by kernel_rfl) (by kernel_rfl) (by kernel_rfl) (fun _ _ _ h => h) (Or.inl ⟨by rfl, ?_⟩) (by assumption) ?_
      rotate_left
      · intro w hSw
        try dsimp only at hSw
        go_simp
        try with_reducible rfl
      try simp only [List.getElem_toArray, List.getElem_cons_succ, List.getElem_cons_zero, Act.put, List.setIfInBounds_toArray, List.set_cons_zero, List.set_cons_succ]
      refine wpAnyH_take (i := 47) (v := ?_) rfl (by kernel_rfl) (by kernel_rfl) (by kernel_rfl) (fun _ _ _ h => h) (Or.inl ⟨by rfl, ?_⟩) (by assumption) ?_
      rotate_left
      · intro w hSw
        try dsimp only at hSw
        obtain ⟨s1, s2, s3, s4, s5, s6, s7⟩ := hSw
        go_simp
        try with_reducible rfl
      try simp only [List.getElem_toArray, List.getElem_cons_succ, List.getElem_cons_zero, Act.put, List.setIfInBounds_toArray, List.set_cons_zero, List.set_cons_succ]
      refine wpAnyH_take (i := 48) (v := ?_) rfl (by kernel_rfl) (by kernel_rfl) (by kernel_rfl) (fun _ _ _ h => h) (Or.inl ⟨by rfl, ?_⟩) (by assumption) ?_
      rotate_left
      · intro w hSw
        try dsimp only at hSw
        go_simp
        try with_reducible rfl
      try simp only [List.getElem_toArray, List.getElem_cons_succ, List.getElem_cons_zero, Act.put, List.setIfInBounds_toArray, List.set_cons_zero, List.set_cons_succ]
      refine wpAnyH_take (i := 49) (v := ?_) rfl (by kernel_rfl) (by kernel_rfl) (by kernel_rfl) (fun _ _ _ h => h) (Or.inl ⟨by rfl, ?_⟩) (by assumption) ?_
      rotate_left
      · intro w hSw
        try dsimp only at hSw
        go_simp
        try with_reducible rfl
      try simp only [List.getElem_toArray, List.getElem_cons_succ, List.getElem_cons_zero, Act.put, List.setIfInBounds_toArray, List.set_cons_zero, List.set_cons_succ]
      refine wpAnyH_take (i := 50) (v := ?_) rfl (by kernel_rfl) (by kernel_rfl) (by kernel_rfl) (fun _ _ _ h => h) (Or.inl ⟨by rfl, ?_⟩) (by assumption) ?_
      rotate_left
      · intro w hSw
        try dsimp only at hSw
        go_simp
        try with_reducible rfl
      try simp only [List.getElem_toArray, List.getElem_cons_succ, List.getElem_cons_zero, Act.put, List.setIfInBounds_toArray, List.set_cons_zero, List.set_cons_succ]
      refine wpAnyH_take (i := 51) (v := ?_) rfl (by kernel_rfl) (by kernel_rfl) (by kernel_rfl) (fun _ _ _ h => h) (Or.inl ⟨by rfl, ?_⟩) (by assumption) ?_
      rotate_left
      · intro w hSw
        try dsimp only at hSw
        go_simp
        try with_reducible rfl
      try simp only [List.getElem_toArray, List.getElem_cons_succ, List.getElem_cons_zero, Act.put, List.setIfInBounds_toArray, List.set_cons_zero, List.set_cons_succ]
      refine wpAnyH_ready (rs := [52]) (by kernel_rfl) (by simp) ?_
      refine AllReadyH.cons rfl (fun Kc hKc => ?_) AllReadyH.nil
      try go_simp
      go_at_call 20
      refine (do_none _ m).mono ?_
      rintro e wc ⟨rfl, MA⟩
      have JC := Lib.hid (JB.out.same MA)
      clear MA
      refine hKc.out _ _ (by (try dsimp only); exact HK.out _ JC.out) (fun hHeld => ?_)
      clear hKc Kc
      try simp only [List.getElem_toArray, List.getElem_cons_succ, List.getElem_cons_zero, Act.put, List.setIfInBounds_toArray, List.set_cons_zero, List.set_cons_succ]
      refine wpAnyH_take (i := 53) (v := ?_) rfl (by kernel_rfl) (by kernel_rfl) (by kernel_rfl) (fun _ _ _ h => h) (Or.inl ⟨by rfl, ?_⟩) (by assumption) ?_
      rotate_left
      · intro w hSw
        try dsimp only at hSw
        go_simp
        try with_reducible rfl
      try simp only [List.getElem_toArray, List.getElem_cons_succ, List.getElem_cons_zero, Act.put, List.setIfInBounds_toArray, List.set_cons_zero, List.set_cons_succ]
      refine wpAnyH_take (i := 54) (v := ?_) rfl (by kernel_rfl) (by kernel_rfl) (by kernel_rfl) (fun _ _ _ h => h) (Or.inl ⟨by rfl, ?_⟩) (by assumption) ?_
      rotate_left
      · intro w hSw
        try dsimp only at hSw
        go_simp
        try with_reducible rfl
      try simp only [List.getElem_toArray, List.getElem_cons_succ, List.getElem_cons_zero, Act.put, List.setIfInBounds_toArray, List.set_cons_zero, List.set_cons_succ]
      refine wpAnyH_take (i := 55) (v := ?_) rfl (by kernel_rfl) (by kernel_rfl) (by kernel_rfl) (fun _ _ _ h => h) (Or.inl ⟨by rfl, ?_⟩) (by assumption) ?_
      rotate_left
      · intro w hSw
        try dsimp only at hSw
        go_simp
        try with_reducible rfl
      try simp only [List.getElem_toArray, List.getElem_cons_succ, List.getElem_cons_zero, Act.put, List.setIfInBounds_toArray, List.set_cons_zero, List.set_cons_succ]
      refine wpAnyH_take (i := 56) (v := ?_) rfl (by kernel_rfl) (by kernel_rfl) (by kernel_rfl) (fun _ _ _ h => h) (Or.inl ⟨by rfl, ?_⟩) (by assumption) ?_
      rotate_left
      · intro w hSw
        try dsimp only at hSw
        go_simp
        try with_reducible rfl
      try simp only [List.getElem_toArray, List.getElem_cons_succ, List.getElem_cons_zero, Act.put, List.setIfInBounds_toArray, List.set_cons_zero, List.set_cons_succ]
      refine wpAnyH_done (by kernel_rfl) ?_ _
      go_wp2_with fail
      exact HR.out _ _ ⟨rfl, J18.out.same JC.out⟩
  · try go_simp
    go_at_call 28
    refine (fill5 _).mono ?_
    rintro e wa ⟨rfl, MA⟩
    have JA := Lib.hid (show Same w18 wa from ((Mod.refl _ w18).drew).same MA)
    have hcv3 := conv_new wa
    clear MA
    refine hKc.out _ _ (by (try dsimp only); exact HK.out _ JA.out) (fun hHeld => ?_)
    clear hKc Kc
    try simp only [List.getElem_toArray, List.getElem_cons_succ, List.getElem_cons_zero, Act.put, List.setIfInBounds_toArray, List.set_cons_zero, List.set_cons_succ]
    refine wpAnyH_ready (rs := [25]) (by kernel_rfl) (by simp) ?_
    refine AllReadyH.cons rfl (fun Kc hKc => ?_) AllReadyH.nil
    go_simp
    refine hKc.out _ _ (by (try dsimp only); exact HK.out _ (JA.out.alloc _)) (fun hHeld => ?_)
    clear hKc Kc
    try simp only [List.getElem_toArray, List.getElem_cons_succ, List.getElem_cons_zero, Act.put, List.setIfInBounds_toArray, List.set_cons_zero, List.set_cons_succ]
    refine wpAnyH_ready (rs := [26]) (by kernel_rfl) (by simp) ?_
    refine AllReadyH.cons rfl (fun Kc hKc => ?_) AllReadyH.nil
    go_simp
    refine hKc.out _ _ (by (try dsimp only); exact hHeld) (fun hHeld => ?_)
    clear hKc Kc
    try simp only [List.getElem_toArray, List.getElem_cons_succ, List.getElem_cons_zero, Act.put, List.setIfInBounds_toArray, List.set_cons_zero, List.set_cons_succ]
    refine wpAnyH_take (i := 28) (v := ?_) rfl (by kernel_rfl) (by kernel_rfl) (by kernel_rfl) (fun _ _ _ h => h) (Or.inl ⟨by rfl, ?_⟩) (by assumption) ?_
    rotate_left
    · intro w hSw
      try dsimp only at hSw
      have hcat := cat5
      go_simp
      try with_reducible rfl
    try simp only [List.getElem_toArray, List.getElem_cons_succ, List.getElem_cons_zero, Act.put, List.setIfInBounds_toArray, List.set_cons_zero, List.set_cons_succ]
    refine wpAnyH_take (i := 29) (v := ?_) rfl (by kernel_rfl) (by kernel_rfl) (by kernel_rfl) (fun _ _ _ h => h) (Or.inl ⟨by rfl, ?_⟩) (by assumption) ?_
    rotate_left
    · intro w hSw
      try dsimp only at hSw
      have hcat := cat5
      go_simp
      try with_reducible rfl
    try simp only [List.getElem_toArray, List.getElem_cons_succ, List.getElem_cons_zero, Act.put, List.setIfInBounds_toArray, List.set_cons_zero, List.set_cons_succ]
    refine wpAnyH_take (i := 30) (v := ?_) rfl (by kernel_rfl) (by kernel_rfl) (by kernel_rfl) (fun _ _ _ h => h) (Or.inl ⟨by rfl, ?_⟩) (by assumption) ?_
    rotate_left
    · intro w hSw
      try dsimp only at hSw
      go_simp
      try with_reducible rfl
    try simp only [List.getElem_toArray, List.getElem_cons_succ, List.getElem_cons_zero, Act.put, List.setIfInBounds_toArray, List.set_cons_zero, List.set_cons_succ]
    refine wpAnyH_take (i := 31) (v := ?_) rfl (by kernel_rfl) (by kernel_rfl) (by kernel_rfl) (fun _ _ _ h => h) (Or.inl ⟨by rfl, ?_⟩) (by assumption) ?_
    rotate_left
    · intro w hSw
      try dsimp only at hSw
      go_simp
      try with_reducible rfl
    try simp only [List.getElem_toArray, List.getElem_cons_succ, List.getElem_cons_zero, Act.put, List.setIfInBounds_toArray, List.set_cons_zero, List.set_cons_succ]
    refine wpAnyH_take (i := 32) (v := ?_) rfl (by kernel_rfl) (by kernel_rfl) (by kernel_rfl) (fun _ _ _ h => h) (Or.inl ⟨by rfl, ?_⟩) (by assumption) ?_
    rotate_left
    · intro w hSw
      try dsimp only at hSw
      go_simp
      try with_reducible rfl
    try simp only [List.getElem_toArray, List.getElem_cons_succ, List.getElem_cons_zero, Act.put, List.setIfInBounds_toArray, List.set_cons_zero, List.set_cons_succ]
    refine wpAnyH_ready (rs := [33]) (by kernel_rfl) (by simp) ?_
    refine AllReadyH.cons rfl (fun Kc hKc => ?_) AllReadyH.nil
    try go_simp
    go_at_call 24
    refine (HCN.out _ (JA.out.alloc _)).mono ?_
    rintro e wb ⟨rfl, MA⟩
    have JB := Lib.hid ((JA.out.alloc _).same MA)
    clear MA
    refine hKc.out _ _ (by (try dsimp only); exact HK.out _ JB.out) (fun hHeld => ?_)
    clear hKc Kc
    try simp only [List.getElem_toArray, List.getElem_cons_succ, List.getElem_cons_zero, Act.put, List.setIfInBounds_toArray, List.set_cons_zero, List.set_cons_succ]
    refine wpAnyH_take (i := 34) (v := ?_) rfl (by kernel_rfl) (by kernel_rfl) (by kernel_rfl) (fun _ _ _ h => h) (Or.inl ⟨by rfl, ?_⟩) (by assumption) ?_
    rotate_left
    · intro w hSw
      try dsimp only at hSw
      go_simp
      try with_reducible rfl
    try simp only [List.getElem_toArray, List.getElem_cons_succ, List.getElem_cons_zero, Act.put, List.setIfInBounds_toArray, List.set_cons_zero, List.set_cons_succ]
    refine wpAnyH_take (i := 35) (v := ?_) rfl (by kernel_rfl) (by kernel_rfl) (by kernel_rfl) (fun _ _ _ h => h) (Or.inl ⟨by rfl, ?_⟩) (by assumption) ?_
    rotate_left
    · intro w hSw
      try dsimp only at hSw
      go_simp
      try with_reducible rfl
    try simp only [List.getElem_toArray, List.getElem_cons_succ, List.getElem_cons_zero, Act.put, List.setIfInBounds_toArray, List.set_cons_zero, List.set_cons_succ]
    refine wpAnyH_take (i := 36) (v := ?_) rfl (by kernel_rfl) (by kernel_rfl) (by kernel_rfl) (fun _ _ _ h => h) (Or.inl ⟨by rfl, ?_⟩) (by assumption) ?_
    rotate_left
    · intro w hSw
      try dsimp only at hSw
      go_simp
      try with_reducible rfl
    try simp only [List.getElem_toArray, List.getElem_cons_succ, List.getElem_cons_zero, Act.put, List.setIfInBounds_toArray, List.set_cons_zero, List.set_cons_succ]
    refine wpAnyH_take (i := 37) (v := ?_) rfl (by kernel_rfl) (by kernel_rfl) (by kernel_rfl) (fun _ _ _ h => h) (Or.inl ⟨by rfl, ?_⟩) (by assumption) ?_
    rotate_left
    · intro w hSw
      try dsimp only at hSw
      go_simp
      try with_reducible rfl
    try simp only [List.getElem_toArray, List.getElem_cons_succ, List.getElem_cons_zero, Act.put, List.setIfInBounds_toArray, List.set_cons_zero, List.set_cons_succ]
    refine wpAnyH_take (i := 38) (v := ?_) rfl (by kernel_rfl) (by kernel_rfl) (by kernel_rfl) (fun _ _ _ h => h) (Or.inl ⟨by rfl, ?_⟩) (by assumption) ?_
    rotate_left
    · intro w hSw
      try dsimp only at hSw
      obtain ⟨s1, s2, s3, s4, s5, s6, s7⟩ := hSw
      go_simp
      try with_reducible rfl
    try simp only [List.getElem_toArray, List.getElem_cons_succ, List.getElem_cons_zero, Act.put, List.setIfInBounds_toArray, List.set_cons_zero, List.set_cons_succ]
    refine wpAnyH_take (i := 39) (v := ?_) rfl (by kernel_rfl) (by kernel_rfl) (by kernel_rfl) (fun _ _ _ h => h) (Or.inl ⟨by rfl, ?_⟩) (by assumption) ?_
    rotate_left
    · intro w hSw
      try dsimp only at hSw
      go_simp
      try with_reducible rfl
    try simp only [List.getElem_toArray, List.getElem_cons_succ, List.getElem_cons_zero, Act.put, List.setIfInBounds_toArray, List.set_cons_zero, List.set_cons_succ]
    refine wpAnyH_take (i := 40) (v := ?_) rfl (by kernel_rfl) (by kernel_rfl) (by kernel_rfl) (fun _ _ _ h => h) (Or.inl ⟨by rfl, ?_⟩) (by assumption) ?_
    rotate_left
    · intro w hSw
      try dsimp only at hSw
      go_simp
      try with_reducible rfl
    try simp only [List.getElem_toArray, List.getElem_cons_succ, List.getElem_cons_zero, Act.put, List.setIfInBounds_toArray, List.set_cons_zero, List.set_cons_succ]
    refine wpAnyH_take (i := 41) (v := ?_) rfl (by kernel_rfl) (by kernel_rfl) (by kernel_rfl) (fun _ _ _ h => h) (Or.inl ⟨by rfl, ?_⟩) (by assumption) ?_
    rotate_left
    · intro w hSw
      try dsimp only at hSw
      go_simp
      try with_reducible rfl
    try simp only [List.getElem_toArray, List.getElem_cons_succ, List.getElem_cons_zero, Act.put, List.setIfInBounds_toArray, List.set_cons_zero, List.set_cons_succ]
    refine wpAnyH_take (i := 42) (v := ?_) rfl (by kernel_rfl) (by kernel_rfl) (by kernel_rfl) (fun _ _ _ h => h) (Or.inl ⟨by rfl, ?_⟩) (by assumption) ?_
    rotate_left
    · intro w hSw
      try dsimp only at hSw
      go_simp
      try with_reducible rfl
    try simp only [List.getElem_toArray, List.getElem_cons_succ, List.getElem_cons_zero, Act.put, List.setIfInBounds_toArray, List.set_cons_zero, List.set_cons_succ]
    refine wpAnyH_take (i := 43) (v := ?_) rfl (by kernel_rfl) (by kernel_rfl) (by kernel_rfl) (fun _ _ _ h => h) (Or.inl ⟨by rfl, ?_⟩) (by assumption) ?_
    rotate_left
    · intro w hSw
      try dsimp only at hSw
      go_simp
      try with_reducible rfl
    try simp only [List.getElem_toArray, List.getElem_cons_succ, List.getElem_cons_zero, Act.put, List.setIfInBounds_toArray, List.set_cons_zero, List.set_cons_succ]
    refine wpAnyH_take (i := 44) (v := ?_) rfl (by kernel_rfl) (by kernel_rfl) (by kernel_rfl) (fun _ _ _ h => h) (Or.inl ⟨by rfl, ?_⟩) (by assumption) ?_
    rotate_left
    · intro w hSw
      try dsimp only at hSw
      obtain ⟨s1, s2, s3, s4, s5, s6, s7⟩ := hSw
      go_simp
      try with_reducible rfl
    try simp only [List.getElem_toArray, List.getElem_cons_succ, List.getElem_cons_zero, Act.put, List.setIfInBounds_toArray, List.set_cons_zero, List.set_cons_succ]
    refine wpAnyH_take (i := 45) (v := ?_) rfl (by kernel_rfl) (by kernel_rfl) (by kernel_rfl) (fun _ _ _ h => h) (Or.inl ⟨by rfl, ?_⟩) (by assumption) ?_
    rotate_left
    · intro w hSw
      try dsimp only at hSw
      go_simp
      try with_reducible rfl
    try simp only [List.getElem_toArray, List.getElem_cons_succ, List.getElem_cons_zero, Act.put, List.setIfInBounds_toArray, List.set_cons_zero, List.set_cons_succ]
    refine wpAnyH_take (i := 46) (v := ?_) rfl (by kernel_rfl) (by kernel_rfl) (by kernel_rfl) (fun _ _ _ h => h) (Or.inl ⟨by rfl, ?_⟩) (by assumption) ?_
    rotate_left
    · intro w hSw
      try dsimp only at hSw
      go_simp
      try with_reducible rfl
    try simp only [List.getElem_toArray, List.getElem_cons_succ, List.getElem_cons_zero, Act.put, List.setIfInBounds_toArray, List.set_cons_zero, List.set_cons_succ]
    refine wpAnyH_take (i := 47) (v := ?_) rfl (by kernel_rfl) (by kernel_rfl) (by kernel_rfl) (fun _ _ _ h => h) (Or.inl ⟨by rfl, ?_⟩) (by assumption) ?_
    rotate_left
    · intro w hSw
      try dsimp only at hSw
      obtain ⟨s1, s2, s3, s4, s5, s6, s7⟩ := hSw
      go_simp
      try with_reducible rfl
    try simp only [List.getElem_toArray, List.getElem_cons_succ, List.getElem_cons_zero, Act.put, List.setIfInBounds_toArray, List.set_cons_zero, List.set_cons_succ]
    refine wpAnyH_take (i := 48) (v := ?_) rfl (by kernel_rfl) (by kernel_rfl) (by kernel_rfl) (fun _ _ _ h => h) (Or.inl ⟨by rfl, ?_⟩) (by assumption) ?_
    rotate_left
    · intro w hSw
      try dsimp only at hSw
      go_simp
      try with_reducible rfl
    try simp only [List.getElem_toArray, List.getElem_cons_succ, List.getElem_cons_zero, Act.put, List.setIfInBounds_toArray, List.set_cons_zero, List.set_cons_succ]
    refine wpAnyH_take (i := 49) (v := ?_) rfl (by kernel_rfl) (by kernel_rfl) (by kernel_rfl) (fun _ _ _ h => h) (Or.inl ⟨by rfl, ?_⟩) (by assumption) ?_
    rotate_left
    · intro w hSw
      try dsimp only at hSw
      go_simp
      try with_reducible rfl
    try simp only [List.getElem_toArray, List.getElem_cons_succ, List.getElem_cons_zero, Act.put, List.setIfInBounds_toArray, List.set_cons_zero, List.set_cons_succ]
    refine wpAnyH_take (i := 50) (v := ?_) rfl (by kernel_rfl) (by kernel_rfl) (by kernel_rfl) (fun _ _ _ h => h) (Or.inl ⟨by rfl, ?_⟩) (by assumption) ?_
    rotate_left
    · intro w hSw
      try dsimp only at hSw
      go_simp
      try with_reducible rfl
    try simp only [List.getElem_toArray, List.getElem_cons_succ, List.getElem_cons_zero, Act.put, List.setIfInBounds_toArray, List.set_cons_zero, List.set_cons_succ]
    refine wpAnyH_take (i := 51) (v := ?_) rfl (by kernel_rfl) (by kernel_rfl) (by kernel_rfl) (fun _ _ _ h => h) (Or.inl ⟨by rfl, ?_⟩) (by assumption) ?_
    rotate_left
    · intro w hSw
      try dsimp only at hSw
      go_simp
      try with_reducible rfl
    try simp only [List.getElem_toArray, List.getElem_cons_succ, List.getElem_cons_zero, Act.put, List.setIfInBounds_toArray, List.set_cons_zero, List.set_cons_succ]
    refine wpAnyH_ready (rs := [52]) (by kernel_rfl) (by simp) ?_
    refine AllReadyH.cons rfl (fun Kc hKc => ?_) AllReadyH.nil
    try go_simp
    go_at_call 20
    refine (do_none _ m).mono ?_
    rintro e wc ⟨rfl, MA⟩
    have JC := Lib.hid (JB.out.same MA)
    clear MA
    refine hKc.out _ _ (by (try dsimp only); exact HK.out _ JC.out) (fun hHeld => ?_)
    clear hKc Kc
    try simp only [List.getElem_toArray, List.getElem_cons_succ, List.getElem_cons_zero, Act.put, List.setIfInBounds_toArray, List.set_cons_zero, List.set_cons_succ]
    refine wpAnyH_take (i := 53) (v := ?_) rfl (by kernel_rfl) (by kernel_rfl) (by kernel_rfl) (fun _ _ _ h => h) (Or.inl ⟨by rfl, ?_⟩) (by assumption) ?_
    rotate_left
    · intro w hSw
      try dsimp only at hSw
      go_simp
      try with_reducible rfl
    try simp only [List.getElem_toArray, List.getElem_cons_succ, List.getElem_cons_zero, Act.put, List.setIfInBounds_toArray, List.set_cons_zero, List.set_cons_succ]
    refine wpAnyH_take (i := 54) (v := ?_) rfl (by kernel_rfl) (by kernel_rfl) (by kernel_rfl) (fun _ _ _ h => h) (Or.inl ⟨by rfl, ?_⟩) (by assumption) ?_
    rotate_left
    · intro w hSw
      try dsimp only at hSw
      go_simp
      try with_reducible rfl
    try simp only [List.getElem_toArray, List.getElem_cons_succ, List.getElem_cons_zero, Act.put, List.setIfInBounds_toArray, List.set_cons_zero, List.set_cons_succ]
    refine wpAnyH_take (i := 55) (v := ?_) rfl (by kernel_rfl) (by kernel_rfl) (by kernel_rfl) (fun _ _ _ h => h) (Or.inl ⟨by rfl, ?_⟩) (by assumption) ?_
    rotate_left
    · intro w hSw
      try dsimp only at hSw
      go_simp
      try with_reducible rfl
    try simp only [List.getElem_toArray, List.getElem_cons_succ, List.getElem_cons_zero, Act.put, List.setIfInBounds_toArray, List.set_cons_zero, List.set_cons_succ]
    refine wpAnyH_take (i := 56) (v := ?_) rfl (by kernel_rfl) (by kernel_rfl) (by kernel_rfl) (fun _ _ _ h => h) (Or.inl ⟨by rfl, ?_⟩) (by assumption) ?_
    rotate_left
    · intro w hSw
      try dsimp only at hSw
      go_simp
      try with_reducible rfl
    try simp only [List.getElem_toArray, List.getElem_cons_succ, List.getElem_cons_zero, Act.put, List.setIfInBounds_toArray, List.set_cons_zero, List.set_cons_succ]
    refine wpAnyH_done (by kernel_rfl) ?_ _
    go_wp2_with fail
    exact HR.out _ _ ⟨rfl, J18.out.same JC.out⟩
end Go.Proofs.YtlcepoagpocadaaGreatDoor
