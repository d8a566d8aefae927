import Derived.Test.YthkcdoneghcglaaDoorScrQ
import Derived.Lib.ConvBytes
import Derived.Lib.AtoiAllMem
import Derived.Laws.Strings3
import Derived.Laws.Closers25
import Derived.Laws.Closers25b
set_option linter.unusedSimpArgs false
set_option linter.unusedVariables false
/- The library's ParseUint at base 16, 32 bits: of eight small hexadecimal digits their number; of any text it returns. -/
namespace Go.Proofs.YthkcdoneghcglaaDoor
open Go Go.RowKit
theorem hexF_bd : ∀ (l : List UInt8) (u : Nat), l.all isHex = true → hexF u l < (u + 1) * 16 ^ l.length
  | [], u, _ => by simp [hexF]
  | c :: r, u, h => by
    simp only [List.all_cons, Bool.and_eq_true] at h
    have hc := hexD_lt c h.1
    have := hexF_bd r (u * 16 + hexD c) h.2
    rw [List.length_cons, Nat.pow_succ, Nat.mul_comm (16 ^ r.length) 16, ← Nat.mul_assoc]
    exact Nat.lt_of_lt_of_le this (Nat.mul_le_mul_right _ (by omega))
/-- Eight small hexadecimal digits. -/
def hexG (p : List UInt8) : Prop := p.length = 8 ∧ p.all isHex = true
theorem hexV_G {p : List UInt8} {h : Nat} (e : hexV p = some h) : hexG p ∧ h = hexF 0 p := by
  unfold hexV at e
  split at e
  · rename_i hc; cases e; exact ⟨hc, rfl⟩
  · cases e
theorem hexV_not {p : List UInt8} (h : ¬ hexG p) : hexV p = none := by unfold hexV; exact if_neg h
theorem hexG_at {p : List UInt8} (h : hexG p) {k : Nat} {c : UInt8} (hc : p[k]? = some c) : isHex c = true := List.all_eq_true.1 h.2 c (List.mem_of_getElem? hc)
theorem hexG_take {p : List UInt8} (h : hexG p) {k : Nat} {c : UInt8} (hc : p[k]? = some c) : hexF 0 (p.take (k + 1)) = hexF 0 (p.take k) * 16 + hexD c ∧ hexF 0 (p.take k) * 16 + hexD c < 4294967296 := by
  have e : hexF 0 (p.take (k + 1)) = hexF 0 (p.take k) * 16 + hexD c := by rw [List.take_add_one, hc]; exact hexF_snoc _ _ _
  refine ⟨e, ?_⟩
  rw [← e]
  have hb := hexF_bd (p.take (k + 1)) 0 (by rw [List.all_eq_true]; intro x hx; exact List.all_eq_true.1 h.2 x (List.mem_of_mem_take hx))
  have hl : (p.take (k + 1)).length ≤ 8 := by rw [List.length_take, h.1]; omega
  have : 16 ^ (p.take (k + 1)).length ≤ 16 ^ 8 := Nat.pow_le_pow_right (by decide) hl
  omega
/-- What internal ParseUint hands back. -/
def PuV (p : List UInt8) (T : TypeId → Value → Prop) (e : Ending) : Prop := ∃ (a : Int) (err : Value), e = .returned (.tuple #[.int .u64 a, err]) ∧ 0 ≤ a ∧ a < 18446744073709551616 ∧ ((err = .nilIface ∧ ∀ h, hexV p = some h → a = (h : Int)) ∨ (hexV p = none ∧ ∃ t x, err = .iface t x ∧ T t x))
abbrev T126 (t : TypeId) (x : Value) : Prop := t = 126 ∧ (x = .int .i64 1 ∨ x = .int .i64 2)
theorem lower_hex (c : UInt8) (h : isHex c = true) (h9 : ¬ c.toNat ≤ 57) : bits .or .u8 (c.toNat : Int) 32 = (c.toNat : Int) := by
  have h1 := (isHex_iff c).1 h
  have h2 : ∀ n : Nat, 97 ≤ n → n ≤ 102 → bits .or .u8 (n : Int) 32 = (n : Int) := by
    intro n a b
    have : n = 97 ∨ n = 98 ∨ n = 99 ∨ n = 100 ∨ n = 101 ∨ n = 102 := by omega
    rcases this with rfl | rfl | rfl | rfl | rfl | rfl <;> decide
  exact h2 _ (by omega) (by omega)
set_option maxHeartbeats 32000000 in
set_option maxRecDepth 100000 in
theorem ipu_any (p : List UInt8) (hp : p.length ≤ 1000000) (w : World) :
    Calls Tryd.prog 72 #[strV p, .int .i64 16, .int .i64 32] w fun e w' => PuV p T126 e ∧ Same w w' := by
  refine opq fun R HR => ?_
  unfold strV
  have hsz := bytes_size p
  by_cases hne : p = []
  · subst hne
    go_enter Tryd.func72, Tryd.ntmps72
    go_wp2
    exact HR.out _ _ ⟨⟨_, _, rfl, by omega, by omega, .inr ⟨rfl, _, _, rfl, rfl, .inr rfl⟩⟩, Mod.refl _ _⟩
  · have hpos : 0 < p.length := by rcases p with _ | ⟨c, r⟩; exact absurd rfl hne; simp
    have hemp : p.isEmpty = false := by cases p; exact absurd rfl hne; rfl
    have hcv := Lib.run_convert_string_bytes (P := Tryd.prog) w 9 72 5 ⟨p.toArray⟩ (u := .string) Tryd.underlying9 Tryd.underlying72 Tryd.underlying5
    have hB : ∀ j, j < p.length → (Lib.bytesWorld w 5 ⟨p.toArray⟩).cell? ⟨w.heap.size, j, none⟩ = some (.int .u8 (p.getD j 0).toNat) := fun j hj => Lib.bytesWorld_cell w 5 ⟨p.toArray⟩ j (by rw [hsz]; exact hj)
    have HM := Lib.hid (bytes_same w ⟨p.toArray⟩)
    obtain ⟨W1, hW1⟩ : ∃ W1, W1 = Lib.bytesWorld w 5 ⟨p.toArray⟩ := ⟨_, rfl⟩
    rw [← hW1] at hcv hB HM
    clear hW1
    have HB := Lib.hid hB
    clear hB
    go_enter Tryd.func72, Tryd.ntmps72
    go_wp2_with fail
    go_loopw [12, 13, 101] (fun vu vn vi wr => ∃ (k : Nat) (a : Int), vu = .bool false ∧ vn = .int .u64 a ∧ vi = .int .i64 k ∧ k ≤ p.length ∧ 0 ≤ a ∧ a ≤ 4294967295 ∧ (hexG p → a = (hexF 0 (p.take k) : Int)) ∧ wr = W1) (fun _ _ vi _ => p.length - (intOf vi).toNat)
    case atStart => exact ⟨0, 0, rfl, rfl, rfl, by omega, by omega, by omega, fun _ => rfl, rfl⟩
    case round =>
      obtain ⟨k, a, rfl, rfl, rfl, hk, a0, a1, hh, rfl⟩ := hrel
      by_cases hkn : k < p.length
      · obtain ⟨c, hx⟩ : ∃ c, p[k]? = some c := ⟨_, List.getElem?_eq_getElem hkn⟩
        have hc := HB.out k hkn
        rw [List.getD_eq_getElem?_getD, hx, Option.getD_some] at hc
        have hc256 : c.toNat < 256 := c.toNat_lt
        have HG := Lib.hid (fun (h : hexG p) => hexG_at h hx)
        have HT := Lib.hid (fun (h : hexG p) => hexG_take h hx)
        have HH := Lib.hid hh
        clear hx hh
        by_cases hdig : 48 ≤ c.toNat ∧ c.toNat ≤ 57
        · obtain ⟨hd0, hd1⟩ := hdig
          have hD : hexD c = c.toNat - 48 := by unfold hexD; rw [if_pos hd1]
          have HD := Lib.hid hD
          by_cases hov : a * 16 + ((c.toNat : Int) - 48) ≤ 4294967295
          · have HN := Lib.hid (show hexG p → a * 16 + ((c.toNat : Int) - 48) = (hexF 0 (p.take (k + 1)) : Int) from fun h => by
              have := HT.out h; have := HH.out h; have := HD.out; omega)
            have hlow : IntKind.u8.wrap ((c.toNat : Int) - 48) = (c.toNat : Int) - 48 := by rw [u8wrap]; omega
            clear HG HT HH HD hD
            generalize c.toNat = cn at *
            go_wp2_with fail
            exact ⟨⟨k + 1, _, rfl, rfl, by go_num, by omega, by omega, by omega, HN.out, trivial⟩, by simp [intOf]; omega⟩
          · have HV := Lib.hid (hexV_not (p := p) (fun h => by have := HT.out h; have := HH.out h; have := HD.out; omega))
            have hlow : IntKind.u8.wrap ((c.toNat : Int) - 48) = (c.toNat : Int) - 48 := by rw [u8wrap]; omega
            clear HG HT HH HD hD
            generalize c.toNat = cn at *
            go_wp2
            exact HR.out _ _ ⟨⟨_, _, rfl, by omega, by omega, .inr ⟨HV.out, _, _, rfl, rfl, .inl rfl⟩⟩, HM.out⟩
        · have hv0 := bits_lo_u8 .or (c.toNat : Int) 32
          have hv1 := bits_hi_u8 .or (c.toNat : Int) 32
          have HL := Lib.hid (fun (h : hexG p) => lower_hex c (HG.out h) (by have := (isHex_iff c).1 (HG.out h); omega))
          have HR2 := Lib.hid (fun (h : hexG p) => (isHex_iff c).1 (HG.out h))
          have HD := Lib.hid (fun (h : ¬ c.toNat ≤ 57) => show hexD c = c.toNat - 87 by unfold hexD; rw [if_neg h])
          have hlc := Tryd.internal_strconv_lower (c.toNat : Int)
          obtain ⟨b, hb⟩ : ∃ b, bits .or .u8 (c.toNat : Int) 32 = b := ⟨_, rfl⟩
          rw [hb] at hv0 hv1 HL hlc
          have HLC := Lib.hid hlc
          clear hb hlc
          generalize hexD c = dc at *
          generalize c.toNat = cn at *
          have h95 : ((cn : Int) == 95) = true ∨ ((cn : Int) == 95) = false := by cases ((cn : Int) == 95) <;> simp
          have hq : decide ((48 : Int) ≤ (cn : Int)) = false ∨ decide ((48 : Int) ≤ (cn : Int)) = true ∧ decide ((cn : Int) ≤ 57) = false := by
            by_cases q : (48 : Int) ≤ (cn : Int)
            · exact .inr ⟨decide_eq_true q, decide_eq_false (by omega)⟩
            · exact .inl (decide_eq_false q)
          by_cases hb1 : 97 ≤ b
          · by_cases hb2 : b ≤ 122
            · have hw1 : IntKind.u8.wrap (IntKind.u8.wrap (b - 97) + 10) = b - 87 := by rw [u8wrap, u8wrap]; omega
              by_cases hb3 : b ≤ 102
              · by_cases hov : a * 16 + (b - 87) ≤ 4294967295
                · have HN := Lib.hid (show hexG p → a * 16 + (b - 87) = (hexF 0 (p.take (k + 1)) : Int) from fun h => by
                    have := HT.out h; have := HH.out h; have := HL.out h; have := HR2.out h; have := HD.out (by omega); omega)
                  clear HG HT HH HD HL HR2
                  rcases h95 with h95 | h95
                  all_goals
                    rcases hq with hq | ⟨hq, hq2⟩
                    all_goals
                      go_wp2_with (go_at_call 94; refine (HLC.out _).mono ?_; rintro e w' ⟨rfl, rfl⟩)
                      exact ⟨⟨k + 1, _, rfl, rfl, by go_num, by omega, by omega, by omega, fun h => by have := HN.out h; omega, trivial⟩, by simp [intOf]; omega⟩
                · have HV := Lib.hid (hexV_not (p := p) (fun h => by have := HT.out h; have := HH.out h; have := HL.out h; have := HR2.out h; have := HD.out (by omega); omega))
                  clear HG HT HH HD HL HR2
                  rcases h95 with h95 | h95
                  all_goals
                    rcases hq with hq | ⟨hq, hq2⟩
                    all_goals
                      go_wp2_with (go_at_call 94; refine (HLC.out _).mono ?_; rintro e w' ⟨rfl, rfl⟩)
                      exact HR.out _ _ ⟨⟨_, _, rfl, by omega, by omega, .inr ⟨HV.out, _, _, rfl, rfl, .inl rfl⟩⟩, HM.out⟩
              · have HV := Lib.hid (hexV_not (p := p) (fun h => by have := HL.out h; have := HR2.out h; omega))
                clear HG HT HH HD HL HR2
                rcases h95 with h95 | h95
                all_goals
                  rcases hq with hq | ⟨hq, hq2⟩
                  all_goals
                    go_wp2_with (go_at_call 94; refine (HLC.out _).mono ?_; rintro e w' ⟨rfl, rfl⟩)
                    exact HR.out _ _ ⟨⟨_, _, rfl, by omega, by omega, .inr ⟨HV.out, _, _, rfl, rfl, .inr rfl⟩⟩, HM.out⟩
            · have HV := Lib.hid (hexV_not (p := p) (fun h => by have := HL.out h; have := HR2.out h; omega))
              clear HG HT HH HD HL HR2
              rcases h95 with h95 | h95
              all_goals
                rcases hq with hq | ⟨hq, hq2⟩
                all_goals
                  go_wp2_with (go_at_call 94; refine (HLC.out _).mono ?_; rintro e w' ⟨rfl, rfl⟩)
                  exact HR.out _ _ ⟨⟨_, _, rfl, by omega, by omega, .inr ⟨HV.out, _, _, rfl, rfl, .inr rfl⟩⟩, HM.out⟩
          · have HV := Lib.hid (hexV_not (p := p) (fun h => by have := HL.out h; have := HR2.out h; omega))
            clear HG HT HH HD HL HR2
            rcases h95 with h95 | h95
            all_goals
              rcases hq with hq | ⟨hq, hq2⟩
              all_goals
                go_wp2_with (go_at_call 94; refine (HLC.out _).mono ?_; rintro e w' ⟨rfl, rfl⟩)
                exact HR.out _ _ ⟨⟨_, _, rfl, by omega, by omega, .inr ⟨HV.out, _, _, rfl, rfl, .inr rfl⟩⟩, HM.out⟩
      · obtain rfl : k = p.length := by omega
        rw [List.take_length] at hh
        have HH := Lib.hid hh
        clear hh
        go_wp2
        refine HR.out _ _ ⟨⟨a, _, rfl, a0, by omega, .inl ⟨rfl, fun h e => ?_⟩⟩, HM.out⟩
        obtain ⟨g, rfl⟩ := hexV_G e
        exact HH.out g
end Go.Proofs.YthkcdoneghcglaaDoor
