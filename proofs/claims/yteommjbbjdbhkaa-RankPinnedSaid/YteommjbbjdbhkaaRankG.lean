import Derived.Test.YteommjbbjdbhkaaRankF
set_option linter.unusedSimpArgs false
set_option linter.unusedVariables false
namespace Go.Proofs.Yteommjbbjdbhkaa
open Go Go.RowKit
theorem find_step {L : List It} {pr : It → Bool} {k : Nat} {x : It} (hx : L[k]? = some x) (h : (L.take k).find? pr = none) :
    (pr x = true → L.find? pr = some x) ∧ (pr x = false → (L.take (k + 1)).find? pr = none) := by
  have htk : L.take (k + 1) = L.take k ++ [x] := by rw [List.take_add_one, hx]; rfl
  constructor
  · intro hp
    rw [← List.take_append_drop (k + 1) L, htk, List.find?_append, List.find?_append, h]
    simp [hp]
  · intro hp
    rw [htk, List.find?_append, h]
    simp [hp]
set_option maxHeartbeats 2000000 in
theorem index_any (B : Nat) (c : Int) (a : Option Addr) (cap : Nat) (L : List It) (w : World) (hl : L.length ≤ 1000) (hI : Its w a L) (hB : B < w.heap.size) (hn : w.cell? ⟨B, 0, none⟩ = some (.int .i64 c)) :
    Calls Try.prog 52 #[.slice a L.length cap, .func (.func 53) #[] #[.pointer (some ⟨B, 0, none⟩)]] w fun e w' => ∃ r : Int, e = .returned (.int .i64 r) ∧ Same w w' ∧ ((r = -1 ∧ L.find? (fun x => x.c == c) = none) ∨ ∃ q x, r = ((q : Nat) : Int) ∧ L[q]? = some x ∧ L.find? (fun x => x.c == c) = some x) := by
  refine opq fun R HR => ?_
  have HI := Lib.hid hI
  have HCC := Lib.hid (fun (x : It) (wz : World) (M : Same w wz) => of1_any x.c x.h x.t x.p x.b B c wz (Nat.lt_of_lt_of_le hB M.size) ((M.cell hB (fun q => q) 0).trans hn))
  have hf : ∀ (args : Array Value) (w : World), (callFunc 53 args).run Try.prog w = .ok (.enter 53 args) w := fun _ _ => by kernel_rfl
  clear hI hn
  obtain ⟨n, hn⟩ : ∃ n, L.length = n := ⟨_, rfl⟩
  rw [hn] at hl ⊢
  have HN := Lib.hid hn
  clear hn
  go_enter Try.func52, Try.ntmps52
  go_wp2_with fail
  go_loopw [8, 5] (fun i _ wr => ∃ k : Nat, k ≤ n ∧ i = .int .i64 k ∧ (L.take k).find? (fun x => x.c == c) = none ∧ Same w wr) (fun i _ _ => n - (intOf i).toNat)
  case atStart => exact ⟨0, by omega, rfl, rfl, Mod.refl _ _⟩
  case round =>
    obtain ⟨k, hk, rfl, hfd, M⟩ := hrel
    by_cases hlt : k < n
    · obtain ⟨b1, o1, rfl, hb1, hc1⟩ := (HI.out.same M) (by rw [HN.out]; omega)
      have hkL : k < L.length := by rw [HN.out]; exact hlt
      obtain ⟨x, hx⟩ : ∃ x, L[k]? = some x := ⟨_, List.getElem?_eq_getElem hkL⟩
      obtain ⟨e0, e1, e2, e3, e4⟩ := hc1 k x hx
      have HF := Lib.hid (find_step hx hfd)
      have HX := Lib.hid hx
      have J2 := Lib.hid M
      clear hc1 hx hfd M
      go_wp2_with fail
      refine (HCC.out x _ J2.out).mono ?_
      rintro e w5 ⟨rfl, M5⟩
      have J5 := Lib.hid (J2.out.same M5)
      clear M5 e0 e1 e2 e3 e4
      rcases hpr : (x.c == c) with _ | _
      · have HT := Lib.hid (HF.out.2 hpr)
        clear hpr
        go_wp2
        go_roundw
        case rel => exact ⟨k + 1, by omega, by go_num, HT.out, J5.out⟩
        case measure => simp [intOf]; omega
      · have HT := Lib.hid (HF.out.1 hpr)
        clear hpr
        go_wp2
        exact HR.out _ _ ⟨_, rfl, J5.out, .inr ⟨k, x, rfl, HX.out, HT.out⟩⟩
    · obtain rfl : k = n := by omega
      have hall : L.take k = L := List.take_of_length_le (by rw [HN.out]; exact Nat.le_refl _)
      rw [hall] at hfd
      have J1 := Lib.hid hfd
      have J2 := Lib.hid M
      clear hfd M hall
      go_wp2
      exact HR.out _ _ ⟨_, rfl, J2.out, .inl ⟨rfl, J1.out⟩⟩
end Go.Proofs.Yteommjbbjdbhkaa
