import Derived.Test.YteommjbbjdbhkaaRankC
set_option linter.unusedSimpArgs false
set_option linter.unusedVariables false
namespace Go.Proofs.Yteommjbbjdbhkaa
open Go Go.RowKit
theorem tmod_nat (u : Int) (n : Nat) (hu : 0 ≤ u) (hn : 0 < n) (hl : n ≤ 1000) : ∃ q : Nat, q < n ∧ (u % (n : Int)).toNat = q ∧ wrap64 (u.tmod (n : Int)) = q := by
  have h1 := Int.emod_nonneg u (by omega : (n : Int) ≠ 0)
  have h2 := Int.emod_lt_of_pos u (by omega : 0 < (n : Int))
  rw [Int.tmod_eq_emod_of_nonneg hu]
  generalize u % (n : Int) = r at *
  exact ⟨r.toNat, by omega, rfl, by rw [IntWalk.wrap64_in _ (by omega)]; omega⟩
theorem picked_any (a : Option Addr) (cap : Nat) (L : List It) (pick : Int) (w : World) (hl : L.length ≤ 1000) (hI : Its w a L) :
    Calls Try.prog 44 #[.slice a L.length cap, .int .i64 pick] w fun e w' => e = .returned (.int .i64 (pickC L pick)) ∧ w = w' := by
  refine opq fun R HR => ?_
  by_cases h0 : L.length = 0
  · have hp : pickC L pick = 0 := if_pos h0
    rw [hp] at HR
    rw [h0]
    clear hp h0 hI
    go_enter Try.func44, Try.ntmps44
    go_wp2
    exact HR.out _ _ ⟨rfl, rfl⟩
  · obtain ⟨b, o, rfl, hb, hc⟩ := hI (by omega)
    have hp : pickC L pick = (L.getD ((IntKind.u64.wrap pick) % (L.length : Int)).toNat it0).c := if_neg h0
    rw [hp] at HR
    obtain ⟨n, hn⟩ : ∃ n, L.length = n := ⟨_, rfl⟩
    rw [hn] at HR hl h0 ⊢
    obtain ⟨q, hqn, hq, hz⟩ := tmod_nat (IntKind.u64.wrap pick) n (u64wrap_nonneg pick).1 (by omega) hl
    have hx : L[q]? = some (L.getD q it0) := by rw [List.getD_eq_getElem?_getD, List.getElem?_eq_getElem (by omega)]; rfl
    obtain ⟨e0, _⟩ := hc q _ hx
    rw [hq] at HR
    generalize (L.getD q it0).c = y at *
    have e0' : w.cell? ⟨b, o + (wrap64 ((IntKind.u64.wrap pick).tmod (n : Int))).toNat * 5, none⟩ = some (.int .i64 y) := by rw [hz, Int.toNat_natCast]; exact e0
    have hqi : (q : Int) < (n : Int) := by omega
    have hqi0 : (0 : Int) ≤ (q : Int) := by omega
    have hz1 : 0 ≤ wrap64 ((IntKind.u64.wrap pick).tmod (n : Int)) := by rw [hz]; exact hqi0
    have hz2 : wrap64 ((IntKind.u64.wrap pick).tmod (n : Int)) < (n : Int) := by rw [hz]; exact hqi
    have hn0 : ¬ (n : Int) = 0 := by omega
    have hn1 : (1 : Int) ≤ (n : Int) := by omega
    clear hc hx hp hn hz e0 hq
    go_enter Try.func44, Try.ntmps44
    go_wp2
    exact HR.out _ _ ⟨rfl, rfl⟩
theorem rpick_any (a : Option Addr) (cap : Nat) (L : List It) (pick : Int) (w : World) (hl : L.length ≤ 1000) (hI : Its w a L) :
    Calls Try.prog 46 #[.slice a L.length cap, .int .i64 pick] w fun e w' => e = .returned (.int .i64 (pickC L pick)) ∧ w = w' := by
  refine opq fun R HR => ?_
  by_cases h0 : L.length = 0
  · have hp : pickC L pick = 0 := if_pos h0
    rw [hp] at HR
    rw [h0]
    clear hp h0 hI
    go_enter Try.func46, Try.ntmps46
    go_wp2
    exact HR.out _ _ ⟨rfl, rfl⟩
  · obtain ⟨b, o, rfl, hb, hc⟩ := hI (by omega)
    have hp : pickC L pick = (L.getD ((IntKind.u64.wrap pick) % (L.length : Int)).toNat it0).c := if_neg h0
    rw [hp] at HR
    obtain ⟨n, hn⟩ : ∃ n, L.length = n := ⟨_, rfl⟩
    rw [hn] at HR hl h0 ⊢
    obtain ⟨q, hqn, hq, hz⟩ := tmod_nat (IntKind.u64.wrap pick) n (u64wrap_nonneg pick).1 (by omega) hl
    have hx : L[q]? = some (L.getD q it0) := by rw [List.getD_eq_getElem?_getD, List.getElem?_eq_getElem (by omega)]; rfl
    obtain ⟨e0, _⟩ := hc q _ hx
    rw [hq] at HR
    generalize (L.getD q it0).c = y at *
    have e0' : w.cell? ⟨b, o + (wrap64 ((IntKind.u64.wrap pick).tmod (n : Int))).toNat * 5, none⟩ = some (.int .i64 y) := by rw [hz, Int.toNat_natCast]; exact e0
    have hqi : (q : Int) < (n : Int) := by omega
    have hqi0 : (0 : Int) ≤ (q : Int) := by omega
    have hz1 : 0 ≤ wrap64 ((IntKind.u64.wrap pick).tmod (n : Int)) := by rw [hz]; exact hqi0
    have hz2 : wrap64 ((IntKind.u64.wrap pick).tmod (n : Int)) < (n : Int) := by rw [hz]; exact hqi
    have hn0 : ¬ (n : Int) = 0 := by omega
    have hn1 : (1 : Int) ≤ (n : Int) := by omega
    clear hc hx hp hn hz e0 hq
    go_enter Try.func46, Try.ntmps46
    go_wp2
    exact HR.out _ _ ⟨rfl, rfl⟩
def Wf (L : List It) : Prop := ∀ x ∈ L, x.h ≤ 9223372036854775807
theorem Wf.filter {L : List It} (h : Wf L) (p : It → Bool) : Wf (L.filter p) := fun x hx => h x (List.mem_filter.1 hx).1
theorem levels_any (a : Option Addr) (cap : Nat) (L : List It) (n : Int) (w : World) (hl : L.length ≤ 1000) (hI : Its w a L) (hw : Wf L) :
    Calls Try.prog 45 #[.slice a L.length cap, .int .i64 n] w (ItsPost w (levL L n)) := by
  refine opq fun R HR => ?_
  have hB := Blk.new w #[.int .i64 n] 3
  have HS := Lib.hid (some_cap 54 (.pointer (some ⟨w.heap.size, 0, none⟩)) (fun x => lev x.h == n) a cap L (w.alloc (.cells #[.int .i64 n] 3)) hl (hI.same ((Mod.refl _ w).alloc _)) (fun _ _ => by kernel_rfl)
    (fun x hx wz M => level1_any x.c x.h x.t x.p x.b w.heap.size n wz (Nat.lt_of_lt_of_le hB.lt M.size) ((M.cell hB.lt (fun q => q) 0).trans (hB.cell 0)) (hw x hx)))
  go_enter Try.func45, Try.ntmps45
  go_wp2_with fail
  refine HS.out.mono ?_
  rintro e w1 ⟨a', c', rfl, hi, M⟩
  have J1 := Lib.hid hi
  have J2 := Lib.hid (((Mod.refl (fun _ => False) w).alloc _).same M)
  clear hi M
  go_wp2
  exact HR.out _ _ ⟨_, _, rfl, J1.out, J2.out⟩
end Go.Proofs.Yteommjbbjdbhkaa
