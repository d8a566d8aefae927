import Derived.Test.YthkpmmkddgjhmaaMillD
set_option linter.unusedSimpArgs false
set_option linter.unusedVariables false
namespace Go.Proofs.Ythkpmmkddgjhmaa
open Go Go.RowKit
/-- The type of an order of a kind. -/
def kT (j : Nat) : TypeId := #[90, 92, 94, 95, 96, 97, 82, 86, 83, 68, 70, 71, 72, 74, 88].getD j 0
def IsKind (j : Nat) (v : Value) : Prop := ∃ x, v = .iface (kT j) x
set_option maxRecDepth 10000 in
set_option maxHeartbeats 4000000 in
theorem volume_any (k : Nat) (z : Int) (hz : z = k) (hk : k < 6) (M D : Nat) (sz s id : Int) (w : World) (h : MS w M D sz s) (hs : U64 s) :
    Calls Try.prog 24 #[dptr M, .int .i64 z, .int .i64 id] w (Mills w D (IsKind k)) := by
  refine opq fun R HR => ?_
  have H := Lib.hid h
  have hcm := h.m.cell
  have HT := Lib.hid (fun n (hn : -9223372036854775808 ≤ n ∧ n ≤ 9223372036854775807) => dbelow_any D s n w h.d hs hn)
  have HU := Lib.hid (fun n => belS_u n s hs)
  have hb8 := belV_bd 8 s
  have hb5 := belV_bd 5 s
  have e8 : IntKind.i64.wrap (1 + belV 8 s) = 1 + belV 8 s := IntWalk.i64_in _ (by omega)
  have e5 : IntKind.i64.wrap (1 + belV 5 s) = 1 + belV 5 s := IntWalk.i64_in _ (by omega)
  clear h hb8 hb5
  have hk' : (z = 0 ∧ k = 0) ∨ (z = 1 ∧ k = 1) ∨ (z = 2 ∧ k = 2) ∨ (z = 3 ∧ k = 3) ∨ (z = 4 ∧ k = 4) ∨ (z = 5 ∧ k = 5) := by omega
  clear hk hz
  rcases hk' with ⟨rfl, rfl⟩ | ⟨rfl, rfl⟩ | ⟨rfl, rfl⟩ | ⟨rfl, rfl⟩ | ⟨rfl, rfl⟩ | ⟨rfl, rfl⟩
  all_goals
    go_enter Try.func24, Try.ntmps24
    go_wp2_with (go_at_call 21; refine (HT.out _ (by decide)).mono ?_; rintro e w1 ⟨rfl, h1, M1⟩; have J1 := Lib.hid h1; have J2 := Lib.hid M1; clear h1 M1)
    first
    | exact HR.out _ _ ⟨_, _, rfl, ⟨_, rfl⟩, HU.out _, J1.out, J2.out⟩
    | exact HR.out _ _ ⟨_, _, rfl, ⟨_, rfl⟩, hs, H.out.d, Mod.refl _ _⟩
set_option maxRecDepth 10000 in
set_option maxHeartbeats 4000000 in
theorem ranged_any (k : Nat) (z : Int) (hz : z = k) (hk : 6 ≤ k ∧ k ≤ 8) (M D : Nat) (sz s id : Int) (w : World) (h : MS w M D sz s) (hs : U64 s) (hzz : 1 ≤ sz ∧ sz ≤ 8) :
    Calls Try.prog 22 #[dptr M, .int .i64 z, .int .i64 id] w (Mills w D (IsKind k)) := by
  refine opq fun R HR => ?_
  have H := Lib.hid h
  have HS := Lib.hid (sectors_any M D sz s w h hs hzz)
  clear h
  have hk' : (z = 6 ∧ k = 6) ∨ (z = 7 ∧ k = 7) ∨ (z = 8 ∧ k = 8) := by omega
  clear hk hz
  rcases hk' with ⟨rfl, rfl⟩ | ⟨rfl, rfl⟩ | ⟨rfl, rfl⟩
  all_goals
    go_enter Try.func22, Try.ntmps22
    go_wp2_with fail
    refine HS.out.mono ?_
    rintro e w1 ⟨_, t, rfl, ⟨a, b, rfl, hb1, hb2⟩, hu, hd, hM⟩
    have J1 := Lib.hid hd
    have J2 := Lib.hid hM
    have J3 := Lib.hid (H.out.next hd hM)
    clear hd hM HS
  · go_wp2
    exact HR.out _ _ ⟨_, _, rfl, ⟨_, rfl⟩, hu, J1.out, J2.out⟩
  · obtain ⟨n, rfl⟩ : ∃ n : Nat, b = n := ⟨b.toNat, by omega⟩
    have HD := Lib.hid (data_any M D sz t n w1 J3.out hu (by omega))
    go_wp2_with fail
    refine HD.out.mono ?_
    rintro e w2 ⟨_, t2, rfl, ⟨bs, rfl⟩, hu2, hd, hM⟩
    have K1 := Lib.hid hd
    have K2 := Lib.hid (J2.out.trans hM)
    clear hd hM HD
    go_wp2
    exact HR.out _ _ ⟨_, _, rfl, ⟨_, rfl⟩, hu2, K1.out, K2.out⟩
  · go_wp2
    exact HR.out _ _ ⟨_, _, rfl, ⟨_, rfl⟩, hu, J1.out, J2.out⟩
theorem crash_any (M D : Nat) (sz s : Int) (w : World) (h : MS w M D sz s) (hs : U64 s) :
    Calls Try.prog 23 #[dptr M] w (Mills w D (IsKind 14)) := by
  refine opq fun R HR => ?_
  have HS := Lib.hid (keep_any M D sz s w h hs)
  have H := Lib.hid h
  clear h
  go_enter Try.func23, Try.ntmps23
  go_wp2_with fail
  refine HS.out.mono ?_
  rintro e w1 ⟨_, t, rfl, ⟨a, rfl⟩, hu, hd, hM⟩
  have J1 := Lib.hid (H.out.next hd hM)
  have J2 := Lib.hid hM
  clear hd hM HS H
  have HS := Lib.hid (keep_any M D sz t w1 J1.out hu)
  go_wp2_with fail
  refine HS.out.mono ?_
  rintro e w2 ⟨_, t2, rfl, ⟨b, rfl⟩, hu2, hd, hM⟩
  have K1 := Lib.hid (J1.out.next hd hM)
  have K2 := Lib.hid (J2.out.trans hM)
  clear hd hM HS J1 J2
  have HS := Lib.hid (keep_any M D sz t2 w2 K1.out hu2)
  go_wp2_with fail
  refine HS.out.mono ?_
  rintro e w3 ⟨_, t3, rfl, ⟨c, rfl⟩, hu3, hd, hM⟩
  have L1 := Lib.hid hd
  have L2 := Lib.hid (K2.out.trans hM)
  clear hd hM HS K1 K2
  go_wp2
  exact HR.out _ _ ⟨_, _, rfl, ⟨_, rfl⟩, hu3, L1.out, L2.out⟩
end Go.Proofs.Ythkpmmkddgjhmaa
