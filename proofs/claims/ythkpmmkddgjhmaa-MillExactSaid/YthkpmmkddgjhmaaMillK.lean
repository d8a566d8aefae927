import Derived.Test.YthkpmmkddgjhmaaMillJ
import Derived.Deep.MidRow
set_option linter.unusedSimpArgs false
set_option linter.unusedVariables false
namespace Go.Proofs.Ythkpmmkddgjhmaa
open Go Go.RowKit
def wF (j : Nat) : Nat := #[71, 72, 73, 74, 75, 76, 67, 69, 68, 62, 63, 64, 65, 66, 70].getD j 0
def wB (j : Nat) : ByteArray := (#[⟨#[99, 114, 101, 97, 116, 101]⟩, ⟨#[100, 101, 108, 101, 116, 101]⟩, ⟨#[115, 110, 97, 112]⟩, ⟨#[114, 101, 115, 105, 122, 101]⟩, ⟨#[112, 105, 110]⟩, ⟨#[102, 114, 101, 101]⟩, ⟨#[114, 101, 97, 100]⟩, ⟨#[119, 114, 105, 116, 101]⟩, ⟨#[100, 105, 115, 99, 97, 114, 100]⟩, ⟨#[102, 108, 117, 115, 104]⟩, ⟨#[116, 105, 99, 107]⟩, ⟨#[100, 101, 99, 97, 121]⟩, ⟨#[115, 116, 97, 116, 117, 115]⟩, ⟨#[102, 117, 115, 101]⟩, ⟨#[99, 114, 97, 115, 104]⟩] : Array ByteArray).getD j ⟨#[]⟩
theorem word_any (j : Nat) (hj : j < 15) (v : Value) (w : World) : Calls Try.prog (wF j) #[v] w fun e w' => ∃ s, e = .returned (.string s) ∧ s = wB j ∧ Same w w' := by
  have h : j = 0 ∨ j = 1 ∨ j = 2 ∨ j = 3 ∨ j = 4 ∨ j = 5 ∨ j = 6 ∨ j = 7 ∨ j = 8 ∨ j = 9 ∨ j = 10 ∨ j = 11 ∨ j = 12 ∨ j = 13 ∨ j = 14 := by omega
  rcases h with rfl | rfl | rfl | rfl | rfl | rfl | rfl | rfl | rfl | rfl | rfl | rfl | rfl | rfl | rfl
  · exact (word71 v w).mono fun e w' h => ⟨_, h.1, rfl, h.2⟩
  · exact (word72 v w).mono fun e w' h => ⟨_, h.1, rfl, h.2⟩
  · exact (word73 v w).mono fun e w' h => ⟨_, h.1, rfl, h.2⟩
  · exact (word74 v w).mono fun e w' h => ⟨_, h.1, rfl, h.2⟩
  · exact (word75 v w).mono fun e w' h => ⟨_, h.1, rfl, h.2⟩
  · exact (word76 v w).mono fun e w' h => ⟨_, h.1, rfl, h.2⟩
  · exact (word67 v w).mono fun e w' h => ⟨_, h.1, rfl, h.2⟩
  · exact (word69 v w).mono fun e w' h => ⟨_, h.1, rfl, h.2⟩
  · exact (word68 v w).mono fun e w' h => ⟨_, h.1, rfl, h.2⟩
  · exact (word62 v w).mono fun e w' h => ⟨_, h.1, rfl, h.2⟩
  · exact (word63 v w).mono fun e w' h => ⟨_, h.1, rfl, h.2⟩
  · exact (word64 v w).mono fun e w' h => ⟨_, h.1, rfl, h.2⟩
  · exact (word65 v w).mono fun e w' h => ⟨_, h.1, rfl, h.2⟩
  · exact (word66 v w).mono fun e w' h => ⟨_, h.1, rfl, h.2⟩
  · exact (word70 v w).mono fun e w' h => ⟨_, h.1, rfl, h.2⟩
theorem wB_other (j : Nat) (hj : j < 13) : (wB j).toList ≠ [102, 117, 115, 101] ∧ (wB j).toList ≠ [99, 114, 97, 115, 104] := by
  have h : j = 0 ∨ j = 1 ∨ j = 2 ∨ j = 3 ∨ j = 4 ∨ j = 5 ∨ j = 6 ∨ j = 7 ∨ j = 8 ∨ j = 9 ∨ j = 10 ∨ j = 11 ∨ j = 12 := by omega
  rcases h with rfl | rfl | rfl | rfl | rfl | rfl | rfl | rfl | rfl | rfl | rfl | rfl | rfl <;> decide +kernel
theorem set_eq (j : Nat) (hj : j < 15) : (([.int .i64 0, .int .i64 0, .int .i64 0, .int .i64 0, .int .i64 0, .int .i64 0, .int .i64 0, .int .i64 0, .int .i64 0, .int .i64 0, .int .i64 0, .int .i64 0, .int .i64 0, .int .i64 0, .int .i64 0] : List Value).set j (.int .i64 3)).toArray = a15 (fun i => if i = j then 3 else 0) := by
  have h : j = 0 ∨ j = 1 ∨ j = 2 ∨ j = 3 ∨ j = 4 ∨ j = 5 ∨ j = 6 ∨ j = 7 ∨ j = 8 ∨ j = 9 ∨ j = 10 ∨ j = 11 ∨ j = 12 ∨ j = 13 ∨ j = 14 := by omega
  rcases h with rfl | rfl | rfl | rfl | rfl | rfl | rfl | rfl | rfl | rfl | rfl | rfl | rfl | rfl | rfl <;> rfl
abbrev ws15 : Array Value := #[.string ⟨#[99, 114, 101, 97, 116, 101]⟩, .string ⟨#[100, 101, 108, 101, 116, 101]⟩, .string ⟨#[115, 110, 97, 112]⟩, .string ⟨#[114, 101, 115, 105, 122, 101]⟩, .string ⟨#[112, 105, 110]⟩, .string ⟨#[102, 114, 101, 101]⟩, .string ⟨#[114, 101, 97, 100]⟩, .string ⟨#[119, 114, 105, 116, 101]⟩, .string ⟨#[100, 105, 115, 99, 97, 114, 100]⟩, .string ⟨#[102, 108, 117, 115, 104]⟩, .string ⟨#[116, 105, 99, 107]⟩, .string ⟨#[100, 101, 99, 97, 121]⟩, .string ⟨#[115, 116, 97, 116, 117, 115]⟩, .string ⟨#[102, 117, 115, 101]⟩, .string ⟨#[99, 114, 97, 115, 104]⟩]
theorem pos_at (j : Nat) (hj : j < 15) : posB (fun i => if i = j then 3 else 0) 15 = true := by
  have h : j = 0 ∨ j = 1 ∨ j = 2 ∨ j = 3 ∨ j = 4 ∨ j = 5 ∨ j = 6 ∨ j = 7 ∨ j = 8 ∨ j = 9 ∨ j = 10 ∨ j = 11 ∨ j = 12 ∨ j = 13 ∨ j = 14 := by omega
  rcases h with rfl | rfl | rfl | rfl | rfl | rfl | rfl | rfl | rfl | rfl | rfl | rfl | rfl | rfl | rfl <;> decide
theorem pos_calm (j : Nat) (hj : 13 ≤ j) (hj2 : j < 15) : posB (fun i => if i < 13 then (fun i => if i = j then (3 : Int) else 0) i else 0) 15 = false := by
  have h : j = 13 ∨ j = 14 := by omega
  rcases h with rfl | rfl <;> decide
theorem ws_get (j : Nat) (hj : j < 15) : ws15[j]? = some (.string (wB j)) := by
  have h : j = 0 ∨ j = 1 ∨ j = 2 ∨ j = 3 ∨ j = 4 ∨ j = 5 ∨ j = 6 ∨ j = 7 ∨ j = 8 ∨ j = 9 ∨ j = 10 ∨ j = 11 ∨ j = 12 ∨ j = 13 ∨ j = 14 := by omega
  rcases h with rfl | rfl | rfl | rfl | rfl | rfl | rfl | rfl | rfl | rfl | rfl | rfl | rfl | rfl | rfl <;> rfl
theorem blk_range {w : World} {b : Nat} {arr : Array Value} (h : Blk w b arr) : w.rangeAt b 0 arr.toList := fun j v hv => by
  rw [Nat.zero_add]; exact (h.cell j).trans (by simpa using hv)
theorem info30 : (Try.prog.info? 30).map (·.size) = some 15 := by kernel_rfl
theorem under30 : Try.prog.underlying 30 = some (.array 15 3) := Try.underlying30
theorem us_pos (j : Nat) (hj : j < 15) (h : 0 < (if j < 13 then us j else 0)) : j < 13 := by
  by_cases q : j < 13
  · exact q
  · rw [if_neg q] at h; omega
theorem us_some : posB (fun i => if i < 13 then us i else 0) 15 = true := by decide
theorem du64 (n : Int) : 0 ≤ IntKind.u64.wrap n ∧ IntKind.u64.wrap n ≤ 18446744073709551615 := by
  unfold IntKind.wrap; simp [IntKind.signed, IntKind.bits]; omega
theorem dmod (n k : Int) (hk : 0 < k) : 0 ≤ (IntKind.u64.wrap n).tmod k ∧ (IntKind.u64.wrap n).tmod k < k :=
  ⟨Int.tmod_nonneg _ (du64 n).1, Int.tmod_lt_of_pos _ hk⟩
set_option maxRecDepth 10000 in
set_option maxHeartbeats 4000000 in
theorem millCalm_walk (s n al : Int) (w : World) (hs : U64 s) : Calls Try.prog 3 #[.int .u64 s, .int .i64 n, .int .i64 al] w fun e w' => e = .returned (.bool true) ∧ Below w.heap.size w w' := by
  refine opq fun R HR => ?_
  have HA := Lib.hid (mawake_any w)
  have H8 := Lib.hid (fun wz => usual_any wz)
  have H7 := Lib.hid (fun wz => (show Calls Try.prog 7 #[.agg #[.int .i64 2, .int .i64 1, .int .i64 3, .int .i64 1, .int .i64 1, .int .i64 1, .int .i64 5, .int .i64 8, .int .i64 3, .int .i64 2, .int .i64 5, .int .i64 1, .int .i64 1, .int .i64 1, .int .i64 1]] wz fun e w' => e = .returned (.agg #[.int .i64 2, .int .i64 1, .int .i64 3, .int .i64 1, .int .i64 1, .int .i64 1, .int .i64 5, .int .i64 8, .int .i64 3, .int .i64 2, .int .i64 5, .int .i64 1, .int .i64 1, .int .i64 0, .int .i64 0]) ∧ Same wz w' from calm_any us wz))
  obtain ⟨hn1, hn2⟩ := dmod n 60 (by omega)
  go_enter Try.func3, Try.ntmps3
  go_wp2_with fail
  refine HA.out.mono ?_
  rintro e w1 ⟨rfl, M1⟩
  have J1 := Lib.hid M1
  clear M1 HA
  go_wp2_with fail
  generalize (IntKind.u64.wrap n).tmod 60 = kk at *
  have H6 := Lib.hid (fun wz => (show Calls Try.prog 6 #[.int .u64 s, .int .i64 kk, .agg #[.int .i64 2, .int .i64 1, .int .i64 3, .int .i64 1, .int .i64 1, .int .i64 1, .int .i64 5, .int .i64 8, .int .i64 3, .int .i64 2, .int .i64 5, .int .i64 1, .int .i64 1, .int .i64 0, .int .i64 0], .agg #[.int .i64 0, .int .i64 0, .int .i64 2, .int .i64 0]] wz (ScriptPost wz (fun i => if i < 13 then us i else 0) kk) from script_any s kk (fun i => if i < 13 then us i else 0) 0 0 2 0 wz hs))
  have BX := Lib.hid (Blk.new w1 #[.int .i64 0, .int .i64 0, .int .i64 2, .int .i64 0] 25)
  have J2 := Lib.hid (J1.out.alloc (.cells #[.int .i64 0, .int .i64 0, .int .i64 2, .int .i64 0] 25))
  have hXw : w.heap.size ≤ w1.heap.size := J1.out.size
  generalize hX : w1.heap.size = X at *
  generalize w1.alloc _ = W1 at *
  clear J1 hX
  have hcx := BX.out.cell
  go_region_held3 (fun w' => ∀ i, w'.cell? ⟨X, i, none⟩ = #[Value.int .i64 0, .int .i64 0, .int .i64 2, .int .i64 0][i]?) (first | exact hcx | assumption | go_keep) ((
    first
    | (go_at_call 8; refine (H8.out _).mono ?_; rintro e w2 ⟨rfl, M2⟩; have A2 := Lib.hid ((Mod.refl (fun _ => False) W1).drew.same M2); have q2 := (BX.out.mod A2.out (fun q => q)).cell; clear M2)
    | (go_at_call 7; refine (H7.out _).mono ?_; rintro e w3 ⟨rfl, M3⟩; have A3 := Lib.hid (A2.out.same M3); have q3 := (BX.out.mod A3.out (fun q => q)).cell; clear M3)
    | (go_at_call 6; refine (H6.out _).mono ?_; rintro e w4 ⟨la, ll, lc, rfl, hl, ho, M4⟩; have A4 := Lib.hid (A3.out.same M4); have HO := Lib.hid ho; have hl2 : (ll : Int) = kk := (by rw [hl, if_pos us_some]; omega); have q4 := (BX.out.mod A4.out (fun q => q)).cell; clear M4 hl ho)))
  clear q2 q3 q4 A2 A3 hcx H6 H8
  have J4 := Lib.hid (J2.out.same A4.out)
  have BX4 := Lib.hid (BX.out.mod A4.out (fun q => q))
  clear A4 J2 BX
  obtain rfl : kk = (ll : Int) := hl2.symm
  clear hl2 hn1
  go_wp2_with fail
  go_loopw [10] (fun i wr => ∃ k : Nat, k ≤ ll ∧ i = .int .i64 k ∧ Same w4 wr) (fun i _ => ll - (intOf i).toNat)
  case atStart => exact ⟨0, by omega, rfl, Mod.refl _ _⟩
  case round =>
    obtain ⟨k, hk, rfl, M⟩ := hrel
    by_cases hlt : k < ll
    · obtain ⟨b, o, rfl, hb, hc⟩ := HO.out (by omega)
      obtain ⟨v, ⟨j, x, hj, hjz, rfl⟩, hv⟩ := hc k hlt
      have hj13 := us_pos j hj hjz
      obtain ⟨hf, hcr⟩ := wB_other j hj13
      have HWd := Lib.hid (fun wz => word_any j hj x wz)
      have hvr := (M.cell hb (fun q => q) _).trans hv
      have hbr : b < wr.heap.size := Nat.lt_of_lt_of_le hb M.size
      have J5 := Lib.hid M
      have HF := Lib.hid hf
      have HC := Lib.hid hcr
      clear hc hv hjz hj M hb hf hcr
      generalize wB j = wj at *
      have h : j = 0 ∨ j = 1 ∨ j = 2 ∨ j = 3 ∨ j = 4 ∨ j = 5 ∨ j = 6 ∨ j = 7 ∨ j = 8 ∨ j = 9 ∨ j = 10 ∨ j = 11 ∨ j = 12 := by omega
      clear hj13
      rcases h with rfl | rfl | rfl | rfl | rfl | rfl | rfl | rfl | rfl | rfl | rfl | rfl | rfl
      all_goals
        go_wp2_with fail
        refine (HWd.out _).mono ?_
        rintro e w5 ⟨st, rfl, hst, M5⟩
        have hs1 : (st.toList == [102, 117, 115, 101]) = false := by rw [beq_eq_false_iff_ne, hst]; exact HF.out
        have hv5 := (M5.cell hbr (fun q => q) _).trans hvr
        have J6 := Lib.hid (J5.out.same M5)
        clear M5 hst hvr hbr
        go_wp2_with fail
        refine (HWd.out _).mono ?_
        rintro e w6 ⟨su, rfl, hsu, M6⟩
        have hs3 : (su.toList == [99, 114, 97, 115, 104]) = false := by rw [beq_eq_false_iff_ne, hsu]; exact HC.out
        have J7 := Lib.hid (J6.out.same M6)
        clear M6 hsu hv5
        go_wp2
        go_roundw
        case rel => exact ⟨k + 1, by omega, by go_num, J7.out⟩
        case measure => simp [intOf]; omega
    · obtain rfl : k = ll := by omega
      have J5 := Lib.hid (J4.out.same M)
      have BX5 := Lib.hid (BX4.out.mod M (fun q => q))
      have KM := Lib.hid M
      have hXr : w.heap.size ≤ X := hXw
      have hXl := BX5.out.lt
      clear J4 BX4 M HO
      obtain ⟨hm1, hm2⟩ := dmod al 15 (by omega)
      obtain ⟨j, hat⟩ : ∃ m : Nat, (IntKind.u64.wrap al).tmod 15 = (m : Int) := ⟨((IntKind.u64.wrap al).tmod 15).toNat, by omega⟩
      have hj15 : j < 15 := by omega
      have hjw : wrap64 (j : Int) = (j : Int) := IntWalk.wrap64_in _ (by omega)
      have hat2 : wrap64 ((IntKind.u64.wrap al).tmod 15) = (j : Int) := by rw [hat, hjw]
      clear hm1 hm2
      go_upto_region 15 with fail
      rw [set_eq j hj15]
      obtain ⟨zs, hzs⟩ : ∃ zs : Nat → Int, (fun i => if i = j then (3 : Int) else 0) = zs := ⟨_, rfl⟩
      rw [hzs]
      have BY := Lib.hid ((Blk.new wr (a15 zs) 30).alloc (.cells ws15 36))
      have BW := Lib.hid (Blk.new (wr.alloc (.cells (a15 zs) 30)) ws15 36)
      have hsz1 : (wr.alloc (.cells (a15 zs) 30)).heap.size = wr.heap.size + 1 := by simp
      rw [hsz1] at BW
      have BX6 := Lib.hid ((BX5.out.alloc (.cells (a15 zs) 30)).alloc (.cells ws15 36))
      have J6 := Lib.hid ((J5.out.alloc (.cells (a15 zs) 30)).alloc (.cells ws15 36))
      have hYr : w.heap.size ≤ wr.heap.size := J5.out.size
      generalize (wr.alloc _).alloc _ = W6 at *
      generalize wr.heap.size = Y at *
      clear J5 BX5 hsz1 hXl hat hat2 hjw
      have HS2 := Lib.hid (fun wz => script_any s k zs 0 0 2 0 wz hs)
      have hcy := BY.out.cell
      have hcx := BX6.out.cell
      have hly := BY.out.lt
      have hlx := BX6.out.lt
      go_wp2_with fail
      refine (HS2.out _).mono ?_
      rintro e w7 ⟨a2, l2, c2, rfl, hl2, ho2, M7⟩
      have J7 := Lib.hid (J6.out.same M7)
      have BX7 := Lib.hid (BX6.out.mod M7 (fun q => q))
      have BY7 := Lib.hid (BY.out.mod M7 (fun q => q))
      have BW7 := Lib.hid (BW.out.mod M7 (fun q => q))
      have HO2 := Lib.hid ho2
      rw [← hzs, if_pos (pos_at j hj15)] at hl2
      obtain rfl : l2 = k := by omega
      clear hl2 ho2 M7 J6 BX6 BY BW hcy hcx HS2 hly hlx
      go_wp2_with fail
      go_loopw [15] (fun i wz => ∃ q : Nat, q ≤ l2 ∧ i = .int .i64 q ∧ Same w7 wz) (fun i _ => l2 - (intOf i).toNat)
      case atStart => exact ⟨0, by omega, rfl, Mod.refl _ _⟩
      case round =>
        obtain ⟨q, hq, rfl, M⟩ := hrel
        by_cases hlt2 : q < l2
        · obtain ⟨b, o, rfl, hb, hc⟩ := HO2.out (by omega)
          obtain ⟨v, ⟨j', x, hj', hjz, rfl⟩, hv⟩ := hc q hlt2
          obtain rfl : j' = j := by
            by_cases e : j' = j
            · exact e
            · rw [← hzs] at hjz; simp only [if_neg e] at hjz; omega
          have HWd := Lib.hid (fun wz => word_any j' hj' x wz)
          have hvr := (M.cell hb (fun q => q) _).trans hv
          have hwr := (M.cell BW7.out.lt (fun q => q) j').trans ((BW7.out.cell j').trans (ws_get j' hj'))
          have hbr : b < wr.heap.size := Nat.lt_of_lt_of_le hb M.size
          have hyr : Y + 1 < wr.heap.size := Nat.lt_of_lt_of_le BW7.out.lt M.size
          have K5 := Lib.hid M
          have HZ := Lib.hid hzs
          have hji1 : (0 : Int) ≤ (j' : Int) := by omega
          have hji2 : (j' : Int) < 15 := by omega
          clear hc hv hjz hj' M hb hzs
          generalize wB j' = wj at *
          have h : j' = 0 ∨ j' = 1 ∨ j' = 2 ∨ j' = 3 ∨ j' = 4 ∨ j' = 5 ∨ j' = 6 ∨ j' = 7 ∨ j' = 8 ∨ j' = 9 ∨ j' = 10 ∨ j' = 11 ∨ j' = 12 ∨ j' = 13 ∨ j' = 14 := by omega
          rcases h with h | h | h | h | h | h | h | h | h | h | h | h | h | h | h
          · have hk : kT j' = 90 := by rw [h]; rfl
            rw [hk] at hvr
            have hwf : wF j' = 71 := by rw [h]; rfl
            rw [hwf] at HWd
            clear h hk hwf
            go_wp2_with fail
            go_region_held3 (fun w' => w'.cell? ⟨b, o + q, none⟩ = some (.iface 90 x) ∧ w'.cell? ⟨Y + 1, j', none⟩ = some (.string wj)) (first | exact ⟨hvr, hwr⟩ | assumption | exact ⟨by assumption, by assumption⟩ | go_keep) ((
              first
              | (go_at_call 71; refine (HWd.out _).mono ?_; rintro e w9 ⟨_, rfl, rfl, M9⟩; have K6 := Lib.hid (K5.out.drew.same M9); have M10 := (Mod.refl (fun _ => False) wr).drew.same M9; have p1 := (M10.cell hbr (fun q => q) _).trans hvr; have p2 := (M10.cell hyr (fun q => q) _).trans hwr; clear M9 M10)))
            all_goals
              go_wp2
              go_roundw
              case rel => exact ⟨q + 1, by omega, by go_num, K6.out⟩
              case measure => simp [intOf]; omega
          · have hk : kT j' = 92 := by rw [h]; rfl
            rw [hk] at hvr
            have hwf : wF j' = 72 := by rw [h]; rfl
            rw [hwf] at HWd
            clear h hk hwf
            go_wp2_with fail
            go_region_held3 (fun w' => w'.cell? ⟨b, o + q, none⟩ = some (.iface 92 x) ∧ w'.cell? ⟨Y + 1, j', none⟩ = some (.string wj)) (first | exact ⟨hvr, hwr⟩ | assumption | exact ⟨by assumption, by assumption⟩ | go_keep) ((
              first
              | (go_at_call 72; refine (HWd.out _).mono ?_; rintro e w9 ⟨_, rfl, rfl, M9⟩; have K6 := Lib.hid (K5.out.drew.same M9); have M10 := (Mod.refl (fun _ => False) wr).drew.same M9; have p1 := (M10.cell hbr (fun q => q) _).trans hvr; have p2 := (M10.cell hyr (fun q => q) _).trans hwr; clear M9 M10)))
            all_goals
              go_wp2
              go_roundw
              case rel => exact ⟨q + 1, by omega, by go_num, K6.out⟩
              case measure => simp [intOf]; omega
          · have hk : kT j' = 94 := by rw [h]; rfl
            rw [hk] at hvr
            have hwf : wF j' = 73 := by rw [h]; rfl
            rw [hwf] at HWd
            clear h hk hwf
            go_wp2_with fail
            go_region_held3 (fun w' => w'.cell? ⟨b, o + q, none⟩ = some (.iface 94 x) ∧ w'.cell? ⟨Y + 1, j', none⟩ = some (.string wj)) (first | exact ⟨hvr, hwr⟩ | assumption | exact ⟨by assumption, by assumption⟩ | go_keep) ((
              first
              | (go_at_call 73; refine (HWd.out _).mono ?_; rintro e w9 ⟨_, rfl, rfl, M9⟩; have K6 := Lib.hid (K5.out.drew.same M9); have M10 := (Mod.refl (fun _ => False) wr).drew.same M9; have p1 := (M10.cell hbr (fun q => q) _).trans hvr; have p2 := (M10.cell hyr (fun q => q) _).trans hwr; clear M9 M10)))
            all_goals
              go_wp2
              go_roundw
              case rel => exact ⟨q + 1, by omega, by go_num, K6.out⟩
              case measure => simp [intOf]; omega
          · have hk : kT j' = 95 := by rw [h]; rfl
            rw [hk] at hvr
            have hwf : wF j' = 74 := by rw [h]; rfl
            rw [hwf] at HWd
            clear h hk hwf
            go_wp2_with fail
            go_region_held3 (fun w' => w'.cell? ⟨b, o + q, none⟩ = some (.iface 95 x) ∧ w'.cell? ⟨Y + 1, j', none⟩ = some (.string wj)) (first | exact ⟨hvr, hwr⟩ | assumption | exact ⟨by assumption, by assumption⟩ | go_keep) ((
              first
              | (go_at_call 74; refine (HWd.out _).mono ?_; rintro e w9 ⟨_, rfl, rfl, M9⟩; have K6 := Lib.hid (K5.out.drew.same M9); have M10 := (Mod.refl (fun _ => False) wr).drew.same M9; have p1 := (M10.cell hbr (fun q => q) _).trans hvr; have p2 := (M10.cell hyr (fun q => q) _).trans hwr; clear M9 M10)))
            all_goals
              go_wp2
              go_roundw
              case rel => exact ⟨q + 1, by omega, by go_num, K6.out⟩
              case measure => simp [intOf]; omega
          · have hk : kT j' = 96 := by rw [h]; rfl
            rw [hk] at hvr
            have hwf : wF j' = 75 := by rw [h]; rfl
            rw [hwf] at HWd
            clear h hk hwf
            go_wp2_with fail
            go_region_held3 (fun w' => w'.cell? ⟨b, o + q, none⟩ = some (.iface 96 x) ∧ w'.cell? ⟨Y + 1, j', none⟩ = some (.string wj)) (first | exact ⟨hvr, hwr⟩ | assumption | exact ⟨by assumption, by assumption⟩ | go_keep) ((
              first
              | (go_at_call 75; refine (HWd.out _).mono ?_; rintro e w9 ⟨_, rfl, rfl, M9⟩; have K6 := Lib.hid (K5.out.drew.same M9); have M10 := (Mod.refl (fun _ => False) wr).drew.same M9; have p1 := (M10.cell hbr (fun q => q) _).trans hvr; have p2 := (M10.cell hyr (fun q => q) _).trans hwr; clear M9 M10)))
            all_goals
              go_wp2
              go_roundw
              case rel => exact ⟨q + 1, by omega, by go_num, K6.out⟩
              case measure => simp [intOf]; omega
          · have hk : kT j' = 97 := by rw [h]; rfl
            rw [hk] at hvr
            have hwf : wF j' = 76 := by rw [h]; rfl
            rw [hwf] at HWd
            clear h hk hwf
            go_wp2_with fail
            go_region_held3 (fun w' => w'.cell? ⟨b, o + q, none⟩ = some (.iface 97 x) ∧ w'.cell? ⟨Y + 1, j', none⟩ = some (.string wj)) (first | exact ⟨hvr, hwr⟩ | assumption | exact ⟨by assumption, by assumption⟩ | go_keep) ((
              first
              | (go_at_call 76; refine (HWd.out _).mono ?_; rintro e w9 ⟨_, rfl, rfl, M9⟩; have K6 := Lib.hid (K5.out.drew.same M9); have M10 := (Mod.refl (fun _ => False) wr).drew.same M9; have p1 := (M10.cell hbr (fun q => q) _).trans hvr; have p2 := (M10.cell hyr (fun q => q) _).trans hwr; clear M9 M10)))
            all_goals
              go_wp2
              go_roundw
              case rel => exact ⟨q + 1, by omega, by go_num, K6.out⟩
              case measure => simp [intOf]; omega
          · have hk : kT j' = 82 := by rw [h]; rfl
            rw [hk] at hvr
            have hwf : wF j' = 67 := by rw [h]; rfl
            rw [hwf] at HWd
            clear h hk hwf
            go_wp2_with fail
            go_region_held3 (fun w' => w'.cell? ⟨b, o + q, none⟩ = some (.iface 82 x) ∧ w'.cell? ⟨Y + 1, j', none⟩ = some (.string wj)) (first | exact ⟨hvr, hwr⟩ | assumption | exact ⟨by assumption, by assumption⟩ | go_keep) ((
              first
              | (go_at_call 67; refine (HWd.out _).mono ?_; rintro e w9 ⟨_, rfl, rfl, M9⟩; have K6 := Lib.hid (K5.out.drew.same M9); have M10 := (Mod.refl (fun _ => False) wr).drew.same M9; have p1 := (M10.cell hbr (fun q => q) _).trans hvr; have p2 := (M10.cell hyr (fun q => q) _).trans hwr; clear M9 M10)))
            all_goals
              go_wp2
              go_roundw
              case rel => exact ⟨q + 1, by omega, by go_num, K6.out⟩
              case measure => simp [intOf]; omega
          · have hk : kT j' = 86 := by rw [h]; rfl
            rw [hk] at hvr
            have hwf : wF j' = 69 := by rw [h]; rfl
            rw [hwf] at HWd
            clear h hk hwf
            go_wp2_with fail
            go_region_held3 (fun w' => w'.cell? ⟨b, o + q, none⟩ = some (.iface 86 x) ∧ w'.cell? ⟨Y + 1, j', none⟩ = some (.string wj)) (first | exact ⟨hvr, hwr⟩ | assumption | exact ⟨by assumption, by assumption⟩ | go_keep) ((
              first
              | (go_at_call 69; refine (HWd.out _).mono ?_; rintro e w9 ⟨_, rfl, rfl, M9⟩; have K6 := Lib.hid (K5.out.drew.same M9); have M10 := (Mod.refl (fun _ => False) wr).drew.same M9; have p1 := (M10.cell hbr (fun q => q) _).trans hvr; have p2 := (M10.cell hyr (fun q => q) _).trans hwr; clear M9 M10)))
            all_goals
              go_wp2
              go_roundw
              case rel => exact ⟨q + 1, by omega, by go_num, K6.out⟩
              case measure => simp [intOf]; omega
          · have hk : kT j' = 83 := by rw [h]; rfl
            rw [hk] at hvr
            have hwf : wF j' = 68 := by rw [h]; rfl
            rw [hwf] at HWd
            clear h hk hwf
            go_wp2_with fail
            go_region_held3 (fun w' => w'.cell? ⟨b, o + q, none⟩ = some (.iface 83 x) ∧ w'.cell? ⟨Y + 1, j', none⟩ = some (.string wj)) (first | exact ⟨hvr, hwr⟩ | assumption | exact ⟨by assumption, by assumption⟩ | go_keep) ((
              first
              | (go_at_call 68; refine (HWd.out _).mono ?_; rintro e w9 ⟨_, rfl, rfl, M9⟩; have K6 := Lib.hid (K5.out.drew.same M9); have M10 := (Mod.refl (fun _ => False) wr).drew.same M9; have p1 := (M10.cell hbr (fun q => q) _).trans hvr; have p2 := (M10.cell hyr (fun q => q) _).trans hwr; clear M9 M10)))
            all_goals
              go_wp2
              go_roundw
              case rel => exact ⟨q + 1, by omega, by go_num, K6.out⟩
              case measure => simp [intOf]; omega
          · have hk : kT j' = 68 := by rw [h]; rfl
            rw [hk] at hvr
            have hwf : wF j' = 62 := by rw [h]; rfl
            rw [hwf] at HWd
            clear h hk hwf
            go_wp2_with fail
            go_region_held3 (fun w' => w'.cell? ⟨b, o + q, none⟩ = some (.iface 68 x) ∧ w'.cell? ⟨Y + 1, j', none⟩ = some (.string wj)) (first | exact ⟨hvr, hwr⟩ | assumption | exact ⟨by assumption, by assumption⟩ | go_keep) ((
              first
              | (go_at_call 62; refine (HWd.out _).mono ?_; rintro e w9 ⟨_, rfl, rfl, M9⟩; have K6 := Lib.hid (K5.out.drew.same M9); have M10 := (Mod.refl (fun _ => False) wr).drew.same M9; have p1 := (M10.cell hbr (fun q => q) _).trans hvr; have p2 := (M10.cell hyr (fun q => q) _).trans hwr; clear M9 M10)))
            all_goals
              go_wp2
              go_roundw
              case rel => exact ⟨q + 1, by omega, by go_num, K6.out⟩
              case measure => simp [intOf]; omega
          · have hk : kT j' = 70 := by rw [h]; rfl
            rw [hk] at hvr
            have hwf : wF j' = 63 := by rw [h]; rfl
            rw [hwf] at HWd
            clear h hk hwf
            go_wp2_with fail
            go_region_held3 (fun w' => w'.cell? ⟨b, o + q, none⟩ = some (.iface 70 x) ∧ w'.cell? ⟨Y + 1, j', none⟩ = some (.string wj)) (first | exact ⟨hvr, hwr⟩ | assumption | exact ⟨by assumption, by assumption⟩ | go_keep) ((
              first
              | (go_at_call 63; refine (HWd.out _).mono ?_; rintro e w9 ⟨_, rfl, rfl, M9⟩; have K6 := Lib.hid (K5.out.drew.same M9); have M10 := (Mod.refl (fun _ => False) wr).drew.same M9; have p1 := (M10.cell hbr (fun q => q) _).trans hvr; have p2 := (M10.cell hyr (fun q => q) _).trans hwr; clear M9 M10)))
            all_goals
              go_wp2
              go_roundw
              case rel => exact ⟨q + 1, by omega, by go_num, K6.out⟩
              case measure => simp [intOf]; omega
          · have hk : kT j' = 71 := by rw [h]; rfl
            rw [hk] at hvr
            have hwf : wF j' = 64 := by rw [h]; rfl
            rw [hwf] at HWd
            clear h hk hwf
            go_wp2_with fail
            go_region_held3 (fun w' => w'.cell? ⟨b, o + q, none⟩ = some (.iface 71 x) ∧ w'.cell? ⟨Y + 1, j', none⟩ = some (.string wj)) (first | exact ⟨hvr, hwr⟩ | assumption | exact ⟨by assumption, by assumption⟩ | go_keep) ((
              first
              | (go_at_call 64; refine (HWd.out _).mono ?_; rintro e w9 ⟨_, rfl, rfl, M9⟩; have K6 := Lib.hid (K5.out.drew.same M9); have M10 := (Mod.refl (fun _ => False) wr).drew.same M9; have p1 := (M10.cell hbr (fun q => q) _).trans hvr; have p2 := (M10.cell hyr (fun q => q) _).trans hwr; clear M9 M10)))
            all_goals
              go_wp2
              go_roundw
              case rel => exact ⟨q + 1, by omega, by go_num, K6.out⟩
              case measure => simp [intOf]; omega
          · have hk : kT j' = 72 := by rw [h]; rfl
            rw [hk] at hvr
            have hwf : wF j' = 65 := by rw [h]; rfl
            rw [hwf] at HWd
            clear h hk hwf
            go_wp2_with fail
            go_region_held3 (fun w' => w'.cell? ⟨b, o + q, none⟩ = some (.iface 72 x) ∧ w'.cell? ⟨Y + 1, j', none⟩ = some (.string wj)) (first | exact ⟨hvr, hwr⟩ | assumption | exact ⟨by assumption, by assumption⟩ | go_keep) ((
              first
              | (go_at_call 65; refine (HWd.out _).mono ?_; rintro e w9 ⟨_, rfl, rfl, M9⟩; have K6 := Lib.hid (K5.out.drew.same M9); have M10 := (Mod.refl (fun _ => False) wr).drew.same M9; have p1 := (M10.cell hbr (fun q => q) _).trans hvr; have p2 := (M10.cell hyr (fun q => q) _).trans hwr; clear M9 M10)))
            all_goals
              go_wp2
              go_roundw
              case rel => exact ⟨q + 1, by omega, by go_num, K6.out⟩
              case measure => simp [intOf]; omega
          · have hk : kT j' = 74 := by rw [h]; rfl
            rw [hk] at hvr
            have hwf : wF j' = 66 := by rw [h]; rfl
            rw [hwf] at HWd
            clear h hk hwf
            go_wp2_with fail
            go_region_held3 (fun w' => w'.cell? ⟨b, o + q, none⟩ = some (.iface 74 x) ∧ w'.cell? ⟨Y + 1, j', none⟩ = some (.string wj)) (first | exact ⟨hvr, hwr⟩ | assumption | exact ⟨by assumption, by assumption⟩ | go_keep) ((
              first
              | (go_at_call 66; refine (HWd.out _).mono ?_; rintro e w9 ⟨_, rfl, rfl, M9⟩; have K6 := Lib.hid (K5.out.drew.same M9); have M10 := (Mod.refl (fun _ => False) wr).drew.same M9; have p1 := (M10.cell hbr (fun q => q) _).trans hvr; have p2 := (M10.cell hyr (fun q => q) _).trans hwr; clear M9 M10)))
            all_goals
              go_wp2
              go_roundw
              case rel => exact ⟨q + 1, by omega, by go_num, K6.out⟩
              case measure => simp [intOf]; omega
          · have hk : kT j' = 88 := by rw [h]; rfl
            rw [hk] at hvr
            have hwf : wF j' = 70 := by rw [h]; rfl
            rw [hwf] at HWd
            clear h hk hwf
            go_wp2_with fail
            go_region_held3 (fun w' => w'.cell? ⟨b, o + q, none⟩ = some (.iface 88 x) ∧ w'.cell? ⟨Y + 1, j', none⟩ = some (.string wj)) (first | exact ⟨hvr, hwr⟩ | assumption | exact ⟨by assumption, by assumption⟩ | go_keep) ((
              first
              | (go_at_call 70; refine (HWd.out _).mono ?_; rintro e w9 ⟨_, rfl, rfl, M9⟩; have K6 := Lib.hid (K5.out.drew.same M9); have M10 := (Mod.refl (fun _ => False) wr).drew.same M9; have p1 := (M10.cell hbr (fun q => q) _).trans hvr; have p2 := (M10.cell hyr (fun q => q) _).trans hwr; clear M9 M10)))
            all_goals
              go_wp2
              go_roundw
              case rel => exact ⟨q + 1, by omega, by go_num, K6.out⟩
              case measure => simp [intOf]; omega
        · obtain rfl : q = l2 := by omega
          have J8 := Lib.hid (J7.out.same M)
          have BX8 := Lib.hid (BX7.out.mod M (fun q => q))
          have BY8 := Lib.hid (BY7.out.mod M (fun q => q))
          clear J7 BX7 BY7 BW7 M HO2 H7
          by_cases h13 : j < 13
          · have h13' : decide ((j : Int) < 13) = true := decide_eq_true (by omega)
            have h13'' : decide (j < 13) = true := decide_eq_true h13
            go_wp2_with fail
            go_big_quiet (fail)
            go_wp2
            exact HR.out _ _ ⟨rfl, (show Same w _ from J8.out.drewN _).below⟩
          · have h13' : decide ((j : Int) < 13) = false := decide_eq_false (by omega)
            have h13'' : decide (j < 13) = false := decide_eq_false h13
            obtain ⟨cs, hcs⟩ : ∃ cs, (a15 zs).toList = cs := ⟨_, rfl⟩
            have hcl : cs.length = 15 := by rw [← hcs]; rfl
            have hci : (Try.prog.info? 30).map (·.size) = some cs.length := by rw [hcl]; exact info30
            have hcu := under30
            have hco : ∀ v ∈ cs, v.oneCell' = true := by rw [← hcs]; intro v hv; simp at hv; rcases hv with rfl | rfl | rfl | rfl | rfl | rfl | rfl | rfl | rfl | rfl | rfl | rfl | rfl | rfl | rfl <;> rfl
            have HC7 := Lib.hid (fun wz => (show Calls Try.prog 7 #[.agg cs.toArray] wz fun e w' => e = .returned (.agg (a15 fun i => if i < 13 then zs i else 0)) ∧ Same wz w' by rw [← hcs]; exact calm_any zs wz))
            have BR := Lib.hid (fun (wz : World) (M : Same wr wz) => (show wz.rangeAt Y 0 cs by rw [← hcs]; exact blk_range (BY8.out.mod M (fun q => q))))
            have HS3 := Lib.hid (fun wz => script_any s q (fun i => if i < 13 then zs i else 0) 0 0 2 0 wz hs)
            have hp0 : posB (fun i => if i < 13 then zs i else 0) 15 = false := by rw [← hzs]; exact pos_calm j (by omega) hj15
            have hcy := BR.out wr (Mod.refl _ _)
            have hcx := BX8.out.cell
            go_wp2_with fail
            go_region_held3 (fun w' => w'.rangeAt Y 0 cs ∧ (∀ i, w'.cell? ⟨X, i, none⟩ = #[Value.int .i64 0, .int .i64 0, .int .i64 2, .int .i64 0][i]?)) (first | exact ⟨hcy, hcx⟩ | assumption | exact ⟨by assumption, by assumption⟩ | go_keep) ((
              first
              | (go_at_call 7; refine (HC7.out _).mono ?_; rintro e w8 ⟨rfl, M8⟩; have A8 := Lib.hid ((Mod.refl (fun _ => False) wr).drew.same M8); have p1 := BR.out _ A8.out; have p2 := (BX8.out.mod A8.out (fun q => q)).cell; clear M8)
              | (go_at_call 6; refine (HS3.out _).mono ?_; rintro e w9 ⟨a3, l3, c3, rfl, hl3, _, M9⟩; have A9 := Lib.hid (A8.out.same M9); have p3 := BR.out _ A9.out; have p4 := (BX8.out.mod A9.out (fun q => q)).cell; have hl0 : l3 = 0 := (by rw [hp0] at hl3; simp at hl3; exact hl3); clear M9 hl3)))
            all_goals
              subst hl0
              go_wp2
              exact HR.out _ _ ⟨rfl, (show Same w _ from J8.out.same A9.out).below⟩
end Go.Proofs.Ythkpmmkddgjhmaa
