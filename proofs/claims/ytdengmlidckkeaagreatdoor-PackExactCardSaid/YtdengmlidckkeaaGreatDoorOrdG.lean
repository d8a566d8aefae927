import Derived.Test.YtdengmlidckkeaaGreatDoorOrdF
set_option linter.unusedSimpArgs false
set_option linter.unusedVariables false
namespace Go.Proofs.YtdengmlidckkeaaGreatDoor
open Go Go.RowKit
def isDigit (c : UInt8) : Bool := decide (48 ≤ c.toNat) && decide (c.toNat ≤ 57)
/-- Digits alone. -/
def digitsOnly (d : List UInt8) : Bool := d.all isDigit
/-- What digits come to, as 64 bits hold it. -/
def valFrom (u : Int) : List UInt8 → Int
  | [] => u
  | c :: r => valFrom (IntKind.u64.wrap (IntKind.u64.wrap (u * 10) + ((c.toNat : Int) - 48))) r
theorem valFrom_snoc (l : List UInt8) (c : UInt8) : ∀ u, valFrom u (l ++ [c]) = IntKind.u64.wrap (IntKind.u64.wrap (valFrom u l * 10) + ((c.toNat : Int) - 48)) := by
  induction l with
  | nil => intro u; rfl
  | cons a l ih => intro u; exact ih _
theorem valFrom_take (d : List UInt8) (j : Nat) (c : UInt8) (h : d[j]? = some c) : valFrom 0 (d.take (j + 1)) = IntKind.u64.wrap (IntKind.u64.wrap (valFrom 0 (d.take j) * 10) + ((c.toNat : Int) - 48)) := by
  obtain ⟨hk, rfl⟩ := List.getElem?_eq_some_iff.1 h
  rw [List.take_succ_eq_append_getElem hk, valFrom_snoc]
theorem digits_take (d : List UInt8) (j : Nat) (c : UInt8) (h : d[j]? = some c) : digitsOnly (d.take (j + 1)) = (digitsOnly (d.take j) && isDigit c) := by
  obtain ⟨hk, rfl⟩ := List.getElem?_eq_some_iff.1 h
  unfold digitsOnly
  rw [List.take_succ_eq_append_getElem hk, List.all_append, List.all_cons, List.all_nil, Bool.and_true]
theorem digits_bad (d : List UInt8) (j : Nat) (c : UInt8) (h : d[j]? = some c) (hc : isDigit c = false) : digitsOnly d = false := by
  unfold digitsOnly
  rw [Bool.eq_false_iff]
  intro q
  rw [List.all_eq_true] at q
  have := q c (List.mem_of_getElem? h)
  rw [hc] at this; cases this
/-- What is behind the sign. -/
def bare (t : List UInt8) : List UInt8 := if t.head? = some 45 then t.tail else t
def signed (t : List UInt8) (u : Int) : Int := if t.head? = some 45 then IntKind.i64.wrap (IntKind.u64.wrap (-u)) else IntKind.i64.wrap u
/-- The reference's number of a text whose wide digits are digits. -/
def refNum (t : List UInt8) : Int × Bool :=
  if bare t = [] ∨ 19 < (bare t).length ∨ digitsOnly (bare t) = false then (0, false) else
    if Lib.itoa (signed t (valFrom 0 (bare t))) = t then (signed t (valFrom 0 (bare t)), true) else (0, false)
theorem refNum_bad (t : List UInt8) (h : bare t = [] ∨ 19 < (bare t).length ∨ digitsOnly (bare t) = false) : refNum t = (0, false) := if_pos h
theorem refNum_good (t : List UInt8) (h : ¬ (bare t = [] ∨ 19 < (bare t).length ∨ digitsOnly (bare t) = false)) : refNum t = if Lib.itoa (signed t (valFrom 0 (bare t))) = t then (signed t (valFrom 0 (bare t)), true) else (0, false) := if_neg h
theorem wrapEq64 (x : Int) : IntKind.i64.wrap x = wrap64 x := by rw [IntKind.wrap_i64]; unfold wrap64; omega
theorem i64_any (z : Int) : I64 (IntKind.i64.wrap z) := by unfold I64 IntKind.wrap; simp [IntKind.signed, IntKind.bits]; omega
theorem plainL_len (l : List UInt8) : (plainL l).length ≤ l.length := by
  fun_induction plainL l <;> simp_all <;> omega
set_option maxRecDepth 10000 in
set_option maxHeartbeats 600000 in
theorem refnum_any (l : List UInt8) (hl : l.length ≤ 100000) (w : World) : Calls Tryz.prog 45 #[.string ⟨l.toArray⟩] w fun e w' => e = .returned (.tuple #[.int .i64 (refNum (plainL l)).1, .bool (refNum (plainL l)).2]) ∧ Same w w' := by
  refine opq fun R HR => ?_
  have HP := Lib.hid (plain_any l hl w)
  have htl : (plainL l).length ≤ 100000 := Nat.le_trans (plainL_len l) hl
  generalize plainL l = t at *
  have hbt := bytes_size t
  go_enter Tryz.func45, Tryz.ntmps45
  go_wp2_with fail
  refine HP.out.mono ?_
  rintro e w1 ⟨rfl, M1⟩
  have K1 := Lib.hid M1
  clear M1 HP
  by_cases hneg : t.head? = some 45
  · obtain ⟨d, rfl⟩ : ∃ d, t = 45 :: d := by
      match t, hneg with
      | c :: r, h => exact ⟨r, by simp at h; rw [h]⟩
    have HBA := Lib.hid (show bare (45 :: d) = d from rfl)
    have HSG := Lib.hid (fun u => show signed (45 :: d) u = IntKind.i64.wrap (IntKind.u64.wrap (-u)) from rfl)
    have kx0 := fun W => idx_any (45 :: d) 0 45 rfl 0 rfl W
    have KZ := Lib.hid (fun W => (show (Instr.index 9 (.string ⟨(45 :: d).toArray⟩) (.int .i64 0)).run Tryz.prog W = .ok (.int .u8 45) W from idx_any (45 :: d) 0 45 rfl 0 rfl W))
    have edr : (⟨(45 :: d).toArray⟩ : ByteArray).extract 1 ((45 :: d).length) = ⟨d.toArray⟩ := by rw [← bytes_size]; exact drop_bytes _ _
    have hbd := bytes_size d
    have hpos : 0 < (45 :: d).length := by simp
    generalize 45 :: d = t at *
    by_cases hd0 : d = []
    · have hb : refNum t = (0, false) := refNum_bad t (.inl (by rw [HBA.out]; exact hd0))
      rw [hb] at HR
      have hd1 : d.length = 0 := by rw [hd0]; rfl
      subst hd0
      clear hb
      go_wp2_with fail
      exact HR.out _ _ ⟨rfl, K1.out⟩
    · have hdl : 0 < d.length := List.length_pos_iff.2 hd0
      by_cases hd19 : 19 < d.length
      · have hb : refNum t = (0, false) := refNum_bad t (.inr (.inl (by rw [HBA.out]; exact hd19)))
        rw [hb] at HR
        clear hb
        have q1 : ((d.length : Int) == 0) = false := beq_eq_false_iff_ne.2 (by omega)
        have q2 : decide ((19 : Int) < (d.length : Int)) = true := decide_eq_true (by omega)
        go_wp2_with fail
        exact HR.out _ _ ⟨rfl, K1.out⟩
      · have q1 : ((d.length : Int) == 0) = false := beq_eq_false_iff_ne.2 (by omega)
        have q2 : decide ((19 : Int) < (d.length : Int)) = false := decide_eq_false (by omega)
        go_wp2_with fail
        go_loopw [7, 6] (fun i v wr => ∃ j : Nat, j ≤ d.length ∧ i = .int .i64 (j : Int) ∧ v = .int .u64 (valFrom 0 (d.take j)) ∧ digitsOnly (d.take j) = true ∧ wr = w1) (fun i _ _ => d.length - (intOf i).toNat)
        case atStart => exact ⟨0, by omega, rfl, rfl, rfl, rfl⟩
        case round =>
          obtain ⟨j, hj, rfl, rfl, hdg, rfl⟩ := hrel
          by_cases hlt : j < d.length
          · obtain ⟨c, hc⟩ : ∃ c, d[j]? = some c := ⟨_, List.getElem?_eq_getElem hlt⟩
            have kx := fun W => idx_any d j c hc (j : Int) rfl W
            have EV := Lib.hid (valFrom_take d j c hc)
            have ED := Lib.hid (digits_take d j c hc)
            have EB := Lib.hid (fun q => digits_bad d j c hc q)
            have hcb : c.toNat < 256 := c.toNat_lt
            clear hc
            generalize valFrom 0 (d.take j) = u at *
            by_cases b1 : 48 ≤ c.toNat
            · have c1 : decide ((c.toNat : Int) < 48) = false := decide_eq_false (by omega)
              by_cases b2 : c.toNat ≤ 57
              · have c2 : decide ((57 : Int) < (c.toNat : Int)) = false := decide_eq_false (by omega)
                have hcd : isDigit c = true := by unfold isDigit; simp [b1, b2]
                have e1 : IntKind.u8.wrap ((c.toNat : Int) - 48) = (c.toNat : Int) - 48 := by rw [u8wrap]; omega
                have e2 : IntKind.u64.wrap ((c.toNat : Int) - 48) = (c.toNat : Int) - 48 := wraps_u64 _ (by omega) (by omega)
                rw [hdg, hcd] at ED
                clear hdg hcd EB
                go_wp2_with fail
                go_roundw
                case rel => exact ⟨j + 1, by omega, by go_num, by rw [EV.out], ED.out, by first | rfl | trivial⟩
                case measure => simp [intOf]; omega
              · have c2 : decide ((57 : Int) < (c.toNat : Int)) = true := decide_eq_true (by omega)
                have hcd : isDigit c = false := by unfold isDigit; simp [b2]
                have hb : refNum t = (0, false) := refNum_bad t (.inr (.inr (by rw [HBA.out]; exact EB.out hcd)))
                rw [hb] at HR
                clear hb hdg hcd EB ED EV
                go_wp2_with fail
                exact HR.out _ _ ⟨rfl, K1.out⟩
            · have c1 : decide ((c.toNat : Int) < 48) = true := decide_eq_true (by omega)
              have hcd : isDigit c = false := by unfold isDigit; simp [b1]
              have hb : refNum t = (0, false) := refNum_bad t (.inr (.inr (by rw [HBA.out]; exact EB.out hcd)))
              rw [hb] at HR
              clear hb hdg hcd EB ED EV
              go_wp2_with fail
              exact HR.out _ _ ⟨rfl, K1.out⟩
          · obtain rfl : j = d.length := by omega
            rw [List.take_length] at hdg
            rw [List.take_length]
            have hg := refNum_good t (by rw [HBA.out]; intro q; rcases q with q | q | q; exact hd0 q; exact hd19 q; rw [hdg] at q; cases q)
            rw [HBA.out, HSG.out] at hg
            rw [hg] at HR
            have kz := KZ.out
            clear hg hdg
            generalize valFrom 0 d = u at *
            have HDg := Lib.hid (fun w => digits_any (IntKind.i64.wrap (IntKind.u64.wrap (-u))) (i64_any _) w)
            have hw := (wrapEq64 (IntKind.u64.wrap (-u))).symm
            generalize IntKind.i64.wrap (IntKind.u64.wrap (-u)) = n at *
            by_cases hq : Lib.itoa n = t
            · rw [if_pos hq] at HR
              rw [hq] at HDg
              go_wp2_with fail
              refine (HDg.out _).mono ?_
              rintro e w3 ⟨rfl, M3⟩
              have K3 := Lib.hid (K1.out.same M3)
              clear M3 HDg
              go_wp2_with fail
              exact HR.out _ _ ⟨rfl, K3.out⟩
            · rw [if_neg hq] at HR
              have hq2 : (Lib.itoa n == t) = false := by simp [hq]
              go_wp2_with fail
              refine (HDg.out _).mono ?_
              rintro e w3 ⟨rfl, M3⟩
              have K3 := Lib.hid (K1.out.same M3)
              clear M3 HDg
              generalize Lib.itoa n = iv at *
              go_wp2_with fail
              exact HR.out _ _ ⟨rfl, K3.out⟩
  · have HBA := Lib.hid (show bare t = t from if_neg hneg)
    have HSG := Lib.hid (fun u => show signed t u = IntKind.i64.wrap u from if_neg hneg)
    by_cases ht0 : t = []
    · have hb : refNum t = (0, false) := refNum_bad t (.inl (by rw [HBA.out]; exact ht0))
      rw [hb] at HR
      obtain ⟨n0, hn0⟩ : ∃ n0, t.length = n0 := ⟨_, rfl⟩
      have q0 : n0 = 0 := by rw [← hn0, ht0]; rfl
      have q1 : decide ((0 : Int) < (n0 : Int)) = false := decide_eq_false (by omega)
      have q2 : ((n0 : Int) == 0) = true := by rw [q0]; rfl
      rw [hn0] at hbt
      clear hb HBA HSG ht0 hneg htl q0
      go_wp2_with fail
      exact HR.out _ _ ⟨rfl, K1.out⟩
    · obtain ⟨c, hc⟩ : ∃ c, t[0]? = some c := ⟨_, List.getElem?_eq_getElem (List.length_pos_iff.2 ht0)⟩
      have hcn : c ≠ 45 := by
        intro e; apply hneg; rw [List.head?_eq_getElem?, hc, e]
      have hcn2 : ((c.toNat : Int) == 45) = false := beq_eq_false_iff_ne.2 (fun e => hcn (UInt8.toNat_inj.1 (by show c.toNat = 45; omega)))
      have kx0 := fun W => idx_any t 0 c hc 0 rfl W
      have KZ := Lib.hid kx0
      have hbd := bytes_size t
      have hpos : 0 < t.length := List.length_pos_iff.2 ht0
      clear hc
      by_cases hd0 : t = []
      · exact absurd hd0 ht0
      · have hdl : 0 < t.length := List.length_pos_iff.2 hd0
        by_cases hd19 : 19 < t.length
        · have hb : refNum t = (0, false) := refNum_bad t (.inr (.inl (by rw [HBA.out]; exact hd19)))
          rw [hb] at HR
          clear hb
          have q1 : ((t.length : Int) == 0) = false := beq_eq_false_iff_ne.2 (by omega)
          have q2 : decide ((19 : Int) < (t.length : Int)) = true := decide_eq_true (by omega)
          go_wp2_with fail
          exact HR.out _ _ ⟨rfl, K1.out⟩
        · have q1 : ((t.length : Int) == 0) = false := beq_eq_false_iff_ne.2 (by omega)
          have q2 : decide ((19 : Int) < (t.length : Int)) = false := decide_eq_false (by omega)
          go_wp2_with fail
          go_loopw [7, 6] (fun i v wr => ∃ j : Nat, j ≤ t.length ∧ i = .int .i64 (j : Int) ∧ v = .int .u64 (valFrom 0 (t.take j)) ∧ digitsOnly (t.take j) = true ∧ wr = w1) (fun i _ _ => t.length - (intOf i).toNat)
          case atStart => exact ⟨0, by omega, rfl, rfl, rfl, rfl⟩
          case round =>
            obtain ⟨j, hj, rfl, rfl, hdg, rfl⟩ := hrel
            by_cases hlt : j < t.length
            · obtain ⟨c, hc⟩ : ∃ c, t[j]? = some c := ⟨_, List.getElem?_eq_getElem hlt⟩
              have kx := fun W => idx_any t j c hc (j : Int) rfl W
              have EV := Lib.hid (valFrom_take t j c hc)
              have ED := Lib.hid (digits_take t j c hc)
              have EB := Lib.hid (fun q => digits_bad t j c hc q)
              have hcb : c.toNat < 256 := c.toNat_lt
              clear hc
              generalize valFrom 0 (t.take j) = u at *
              by_cases b1 : 48 ≤ c.toNat
              · have c1 : decide ((c.toNat : Int) < 48) = false := decide_eq_false (by omega)
                by_cases b2 : c.toNat ≤ 57
                · have c2 : decide ((57 : Int) < (c.toNat : Int)) = false := decide_eq_false (by omega)
                  have hcd : isDigit c = true := by unfold isDigit; simp [b1, b2]
                  have e1 : IntKind.u8.wrap ((c.toNat : Int) - 48) = (c.toNat : Int) - 48 := by rw [u8wrap]; omega
                  have e2 : IntKind.u64.wrap ((c.toNat : Int) - 48) = (c.toNat : Int) - 48 := wraps_u64 _ (by omega) (by omega)
                  rw [hdg, hcd] at ED
                  clear hdg hcd EB
                  go_wp2_with fail
                  go_roundw
                  case rel => exact ⟨j + 1, by omega, by go_num, by rw [EV.out], ED.out, by first | rfl | trivial⟩
                  case measure => simp [intOf]; omega
                · have c2 : decide ((57 : Int) < (c.toNat : Int)) = true := decide_eq_true (by omega)
                  have hcd : isDigit c = false := by unfold isDigit; simp [b2]
                  have hb : refNum t = (0, false) := refNum_bad t (.inr (.inr (by rw [HBA.out]; exact EB.out hcd)))
                  rw [hb] at HR
                  clear hb hdg hcd EB ED EV
                  go_wp2_with fail
                  exact HR.out _ _ ⟨rfl, K1.out⟩
              · have c1 : decide ((c.toNat : Int) < 48) = true := decide_eq_true (by omega)
                have hcd : isDigit c = false := by unfold isDigit; simp [b1]
                have hb : refNum t = (0, false) := refNum_bad t (.inr (.inr (by rw [HBA.out]; exact EB.out hcd)))
                rw [hb] at HR
                clear hb hdg hcd EB ED EV
                go_wp2_with fail
                exact HR.out _ _ ⟨rfl, K1.out⟩
            · obtain rfl : j = t.length := by omega
              rw [List.take_length] at hdg
              rw [List.take_length]
              have hg := refNum_good t (by rw [HBA.out]; intro q; rcases q with q | q | q; exact hd0 q; exact hd19 q; rw [hdg] at q; cases q)
              rw [HBA.out, HSG.out] at hg
              rw [hg] at HR
              have kz := KZ.out
              clear hg hdg
              generalize valFrom 0 t = u at *
              have HDg := Lib.hid (fun w => digits_any (IntKind.i64.wrap u) (i64_any _) w)
              have hw := (wrapEq64 (u)).symm
              generalize IntKind.i64.wrap u = n at *
              by_cases hq : Lib.itoa n = t
              · rw [if_pos hq] at HR
                rw [hq] at HDg
                go_wp2_with fail
                refine (HDg.out _).mono ?_
                rintro e w3 ⟨rfl, M3⟩
                have K3 := Lib.hid (K1.out.same M3)
                clear M3 HDg
                go_wp2_with fail
                exact HR.out _ _ ⟨rfl, K3.out⟩
              · rw [if_neg hq] at HR
                have hq2 : (Lib.itoa n == t) = false := by simp [hq]
                go_wp2_with fail
                refine (HDg.out _).mono ?_
                rintro e w3 ⟨rfl, M3⟩
                have K3 := Lib.hid (K1.out.same M3)
                clear M3 HDg
                generalize Lib.itoa n = iv at *
                go_wp2_with fail
                exact HR.out _ _ ⟨rfl, K3.out⟩
end Go.Proofs.YtdengmlidckkeaaGreatDoor
