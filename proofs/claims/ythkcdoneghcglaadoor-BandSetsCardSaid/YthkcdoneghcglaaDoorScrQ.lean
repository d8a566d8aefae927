import Derived.Test.YthkcdoneghcglaaDoorScrO
import Derived.Laws.AppendOwn
set_option linter.unusedSimpArgs false
set_option linter.unusedVariables false
/- The document's words and numbers. -/
namespace Go.Proofs.YthkcdoneghcglaaDoor
open Go Go.RowKit
theorem heap_new (w : World) (o : Obj) : (w.alloc o).heap[w.heap.size]? = some o := heap_alloc_new w o
theorem info9 : (Tryd.prog.info? 9).map (fun i => (i.zero, i.size, i.bytes)) = some (some (.string ⟨#[]⟩), 1, 16) := by kernel_rfl
theorem idx_any (l : List UInt8) (k : Nat) (x : UInt8) (h : l[k]? = some x) (i : Int) (hi : i = (k : Int)) (W : World) : (Instr.index 9 (.string ⟨l.toArray⟩) (.int .i64 i)).run Tryd.prog W = .ok (.int .u8 (x.toNat : Int)) W := by
  obtain ⟨hk, hx⟩ := List.getElem?_eq_some_iff.1 h
  rw [run_index_string W 9 ⟨l.toArray⟩ .i64 i Tryd.underlying9, dif_pos ⟨by omega, by rw [bytes_size]; omega⟩]
  subst hi
  have : (⟨l.toArray⟩ : ByteArray)[(k : Int).toNat]'(by rw [bytes_size]; omega) = x := by rw [← hx]; rfl
  rw [this]
/-- The bytes from one place to another. -/
def seg (l : List UInt8) (fr i : Nat) : List UInt8 := (l.drop fr).take (i - fr)
theorem seg_nil (l : List UInt8) (i : Nat) : seg l i i = [] := by unfold seg; simp
theorem seg_snoc (l : List UInt8) (fr i : Nat) (h : fr ≤ i) (c : UInt8) (hc : l[i]? = some c) : seg l fr (i + 1) = seg l fr i ++ [c] := by
  unfold seg
  rw [show i + 1 - fr = (i - fr) + 1 by omega, List.take_add_one, List.getElem?_drop, show fr + (i - fr) = i by omega, hc]; rfl
theorem seg_bytes (l : List UInt8) (fr i : Nat) : (⟨l.toArray⟩ : ByteArray).extract fr i = ⟨(seg l fr i).toArray⟩ := by
  apply ByteArray.ext
  rw [ByteArray.data_extract]
  apply Array.ext'
  unfold seg
  simp [Array.toList_extract, List.extract_eq_take_drop]
theorem seg_len (l : List UInt8) (fr i : Nat) : (seg l fr i).length ≤ l.length := by unfold seg; rw [List.length_take, List.length_drop]; omega
/-- Bytes ahead of the first word. -/
def att (p : List UInt8) : List (List UInt8) → List (List UInt8)
  | [] => [p]
  | v :: vs => (p ++ v) :: vs
theorem att_nil (l : List UInt8) : att [] (spl l) = spl l := by
  obtain ⟨v, vs, e⟩ := spl_ne l
  rw [e]; rfl
/-- What split has laid before a place. -/
def SplI (l : List UInt8) (i fr : Nat) (W : List (List UInt8)) : Prop := fr ≤ i ∧ i ≤ l.length ∧ W.length ≤ i ∧ spl l = W ++ att (seg l fr i) (spl (l.drop i))
theorem SplI.zero (l : List UInt8) : SplI l 0 0 [] := ⟨Nat.le_refl _, Nat.zero_le _, Nat.le_refl _, by rw [seg_nil, List.drop_zero, att_nil]; rfl⟩
theorem drop_at {l : List UInt8} {i : Nat} {c : UInt8} (h : l[i]? = some c) : l.drop i = c :: l.drop (i + 1) := by
  obtain ⟨q, rfl⟩ := List.getElem?_eq_some_iff.1 h
  exact List.drop_eq_getElem_cons q
theorem SplI.skip {l : List UInt8} {i fr : Nat} {W : List (List UInt8)} (h : SplI l i fr W) {c : UInt8} (hc : l[i]? = some c) (hne : c ≠ 32) : SplI l (i + 1) fr W := by
  obtain ⟨h1, h2, h4, h3⟩ := h
  have hlt : i < l.length := (List.getElem?_eq_some_iff.1 hc).1
  refine ⟨by omega, by omega, by omega, ?_⟩
  obtain ⟨v, vs, e⟩ := spl_ne (l.drop (i + 1))
  rw [h3, drop_at hc, spl_cons hne e, e, seg_snoc l fr i h1 c hc]
  show _ ++ (seg l fr i ++ c :: v) :: vs = _ ++ ((seg l fr i ++ [c]) ++ v) :: vs
  rw [List.append_assoc]; rfl
theorem SplI.cut {l : List UInt8} {i fr : Nat} {W : List (List UInt8)} (h : SplI l i fr W) (hc : l[i]? = some 32) : SplI l (i + 1) (i + 1) (W ++ [seg l fr i]) := by
  obtain ⟨h1, h2, h4, h3⟩ := h
  have hlt : i < l.length := (List.getElem?_eq_some_iff.1 hc).1
  refine ⟨Nat.le_refl _, by omega, by rw [List.length_append, List.length_singleton]; omega, ?_⟩
  rw [h3, drop_at hc, seg_nil, att_nil, List.append_assoc]
  congr 1
  rw [spl, if_pos rfl]
  show (seg l fr i ++ []) :: _ = _
  rw [List.append_nil]; rfl
theorem SplI.last {l : List UInt8} {fr : Nat} {W : List (List UInt8)} (h : SplI l l.length fr W) : spl l = W ++ [seg l fr l.length] := by
  obtain ⟨h1, h2, h4, h3⟩ := h
  rw [h3, List.drop_length]
  show _ ++ [_ ++ []] = _
  rw [List.append_nil]
theorem strV_snoc (W : List (List UInt8)) (x : List UInt8) : W.map strV ++ [.string ⟨x.toArray⟩] = (W ++ [x]).map strV := by rw [List.map_append]; rfl
set_option maxRecDepth 10000 in
set_option maxHeartbeats 2000000 in
theorem refsplit_any (l : List UInt8) (hl : l.length ≤ 100000) (w : World) : Calls Tryd.prog 43 #[.string ⟨l.toArray⟩] w fun e w' => ∃ v, e = .returned v ∧ w'.ownsRow w.heap.size 9 1 v (spl l).length ((spl l).map strV) ∧ Same w w' := by
  refine opq fun R HR => ?_
  have hsz := bytes_size l
  obtain ⟨i0, hi, hz0, hz1, hz2⟩ := info_parts info9
  have I0 := Lib.hid hi
  have Z0 := Lib.hid hz0
  have Z1 := Lib.hid hz1
  have Z2 := Lib.hid hz2
  clear hi hz0 hz1 hz2
  go_enter Tryd.func43, Tryd.ntmps43
  go_wp2_with fail
  go_loopw [3, 4, 5] (fun o f i wr => ∃ (j fr : Nat) (W : List (List UInt8)), i = .int .i64 (j : Int) ∧ f = .int .i64 (fr : Int) ∧ W.length ≤ j ∧ j ≤ l.length + 1 ∧ (SplI l j fr W ∨ j = l.length + 1 ∧ W = spl l) ∧ wr.ownsRow w.heap.size 9 1 o W.length (W.map strV) ∧ Same w wr) (fun _ _ i _ => l.length + 1 - (intOf i).toNat)
  case atStart => exact ⟨0, 0, [], rfl, rfl, by simp, by omega, .inl (SplI.zero l), ⟨rfl, .inr ⟨_, 0, #[], rfl, Nat.le_refl _, heap_new _ _, Nat.le_refl _, by unfold maxLen; omega, rfl, rfl⟩⟩, (Mod.refl _ _).alloc _⟩
  case round =>
    obtain ⟨j, fr, W, rfl, rfl, hWl, hj, hS, hown, hM⟩ := hrel
    have K1 := Lib.hid hown
    have K2 := Lib.hid hM
    have hwz : w.heap.size ≤ wr.heap.size := hM.size
    clear hown hM
    by_cases hlt : j ≤ l.length
    · have hS : SplI l j fr W := by
        rcases hS with h | ⟨h, _⟩
        · exact h
        · omega
      have hfr : fr ≤ j := hS.1
      have HS := Lib.hid hS
      have EX := Lib.hid (seg_bytes l fr j)
      have EV := Lib.hid (strV_snoc W (seg l fr j))
      clear hS
      by_cases he : j = l.length
      · have hb1 : ((j : Int) == (l.length : Int)) = true := by rw [he]; simp
        have HE := Lib.hid he
        clear he
        go_wp2_with (at_builtin; refine wpList_append_own _ rfl (.tmp 23) (.tmp 28) 82 rfl w.heap.size 9 i0 (.string ⟨#[]⟩) 1 16 Tryd.underlying82 I0.out Z0.out Z1.out Z2.out rfl (by decide) _ _ _ rfl (K1.out.alloc _) ⟨wr.heap.size, 0, none⟩ 1 1 [.string ((⟨l.toArray⟩ : ByteArray).extract fr j)] rfl rfl (one_new _ _ _) (fun u hu => (by simp at hu; subst hu; rfl)) (by unfold maxLen; omega) (by omega) (by simp only [World.size_alloc]; omega) ?_; intro v' w3 hown' hgrow _)
        have P1 := Lib.hid (same_append K2.out K1.out hgrow)
        have P2 := Lib.hid hown'
        clear hown' hgrow
        go_roundw
        case rel =>
          have hW : spl l = W ++ [seg l fr j] := by
            have h := HS.out
            have e := HE.out
            subst e
            exact h.last
          refine ⟨j + 1, j + 1, W ++ [seg l fr j], by go_num, by go_num, by rw [List.length_append, List.length_singleton]; omega, by omega, .inr ⟨by have := HE.out; omega, hW.symm⟩, ?_, P1.out⟩
          rw [← EV.out, ← EX.out, List.length_append, List.length_singleton]; exact P2.out
        case measure => simp [intOf]; omega
      · have hb1 : ((j : Int) == (l.length : Int)) = false := by simp; omega
        obtain ⟨x, hx⟩ : ∃ x, l[j]? = some x := ⟨_, List.getElem?_eq_getElem (by omega)⟩
        have kx := fun W => idx_any l j x hx (j : Int) rfl W
        have HX := Lib.hid hx
        clear hx
        by_cases h32 : x = 32
        · subst h32
          have d1 : (((32 : UInt8).toNat : Int) == 32) = true := rfl
          go_wp2_with (at_builtin; refine wpList_append_own _ rfl (.tmp 23) (.tmp 28) 82 rfl w.heap.size 9 i0 (.string ⟨#[]⟩) 1 16 Tryd.underlying82 I0.out Z0.out Z1.out Z2.out rfl (by decide) _ _ _ rfl (K1.out.alloc _) ⟨wr.heap.size, 0, none⟩ 1 1 [.string ((⟨l.toArray⟩ : ByteArray).extract fr j)] rfl rfl (one_new _ _ _) (fun u hu => (by simp at hu; subst hu; rfl)) (by unfold maxLen; omega) (by omega) (by simp only [World.size_alloc]; omega) ?_; intro v' w3 hown' hgrow _)
          have P1 := Lib.hid (same_append K2.out K1.out hgrow)
          have P2 := Lib.hid hown'
          clear hown' hgrow
          go_roundw
          case rel =>
            refine ⟨j + 1, j + 1, W ++ [seg l fr j], by go_num, by go_num, by rw [List.length_append, List.length_singleton]; omega, by omega, .inl (HS.out.cut HX.out), ?_, P1.out⟩
            rw [← EV.out, ← EX.out, List.length_append, List.length_singleton]; exact P2.out
          case measure => simp [intOf]; omega
        · have d1 : ((x.toNat : Int) == 32) = false := by
            have : x.toNat ≠ 32 := fun e => h32 (UInt8.toNat.inj e)
            simp; omega
          have HN := Lib.hid h32
          clear h32
          go_wp2_with fail
          go_roundw
          case rel => exact ⟨j + 1, fr, W, by go_num, rfl, by omega, by omega, .inl (HS.out.skip HX.out HN.out), K1.out, K2.out⟩
          case measure => simp [intOf]; omega
    · have hW : W = spl l := by
        rcases hS with h | ⟨_, h⟩
        · exact absurd h.2.1 hlt
        · exact h
      obtain rfl : j = l.length + 1 := by omega
      subst hW
      go_wp2
      exact HR.out _ _ ⟨_, rfl, K1.out, K2.out⟩

theorem digit_iff (c : UInt8) : isDigit c = true ↔ 48 ≤ c.toNat ∧ c.toNat ≤ 57 := by unfold isDigit; simp
theorem digitsOnly_take {d : List UInt8} {j : Nat} {c : UInt8} (h : d[j]? = some c) : digitsOnly (d.take (j + 1)) = (digitsOnly (d.take j) && isDigit c) := by
  unfold digitsOnly
  rw [List.take_add_one, h, List.all_append]; simp
theorem digitsOnly_bad {d : List UInt8} {j : Nat} {c : UInt8} (h : d[j]? = some c) (hc : isDigit c = false) : digitsOnly d = false := by
  cases e : digitsOnly d with
  | false => rfl
  | true =>
    unfold digitsOnly at e
    have := List.all_eq_true.1 e c (List.mem_of_getElem? h)
    rw [hc] at this; cases this
theorem valD_take {d : List UInt8} {j : Nat} {c : UInt8} (h : d[j]? = some c) : valD 0 (d.take (j + 1)) = valD 0 (d.take j) * 10 + ((c.toNat : Int) - 48) := by
  rw [List.take_add_one, h]; exact valD_snoc _ _ _
set_option maxRecDepth 10000 in
set_option maxHeartbeats 2000000 in
theorem rnum_any (p : List UInt8) (hp : p.length ≤ 1000000) (w : World) : Calls Tryd.prog 44 #[strV p] w fun e w' => e = .returned (.tuple #[.int .i64 (rNum p).1, .bool (rNum p).2]) ∧ Same w w' := by
  refine opq fun R HR => ?_
  have hsz := bytes_size p
  unfold strV
  unfold rNum at HR
  by_cases h4 : 4 < p.length
  · rw [if_pos h4] at HR
    go_enter Tryd.func44, Tryd.ntmps44
    go_wp2
    exact HR.out _ _ ⟨rfl, Mod.refl _ _⟩
  · rw [if_neg h4] at HR
    go_enter Tryd.func44, Tryd.ntmps44
    go_wp2_with fail
    go_loopw [5, 4] (fun i v wr => ∃ j : Nat, j ≤ p.length ∧ i = .int .i64 (j : Int) ∧ v = .int .i64 (valD 0 (p.take j)) ∧ digitsOnly (p.take j) = true ∧ wr = w) (fun i _ _ => p.length - (intOf i).toNat)
    case atStart => exact ⟨0, by omega, rfl, rfl, rfl, rfl⟩
    case round =>
      obtain ⟨j, hj, rfl, rfl, hd, rfl⟩ := hrel
      by_cases hlt : j < p.length
      · obtain ⟨x, hx⟩ : ∃ x, p[j]? = some x := ⟨_, List.getElem?_eq_getElem hlt⟩
        have kx := fun W => idx_any p j x hx (j : Int) rfl W
        have HV := Lib.hid (valD_take hx)
        have hD := digitsOnly_take hx
        rw [hd, Bool.true_and] at hD
        have HD := Lib.hid hD
        have HB := Lib.hid (fun (h : isDigit x = false) => digitsOnly_bad hx h)
        have hb := valD_bd (p.take j) hd 0 (by omega)
        have hl3 : (p.take j).length ≤ 3 := by rw [List.length_take]; omega
        have hpw : (10 : Int) ^ (p.take j).length ≤ 1000 := by
          have h5 : (p.take j).length = 0 ∨ (p.take j).length = 1 ∨ (p.take j).length = 2 ∨ (p.take j).length = 3 := by omega
          rcases h5 with e | e | e | e <;> rw [e] <;> decide
        have hb0 : 0 ≤ valD 0 (p.take j) := hb.1
        have hb1 : valD 0 (p.take j) < 1000 := by omega
        have hxl : x.toNat < 256 := x.toNat_lt
        clear hx hD hd hb hpw hl3
        generalize valD 0 (p.take j) = v at *
        by_cases c1 : 48 ≤ x.toNat
        · by_cases c2 : x.toNat ≤ 57
          · have HD2 := Lib.hid (HD.out.trans ((digit_iff x).2 ⟨c1, c2⟩))
            have hw : IntKind.u8.wrap ((x.toNat : Int) - 48) = (x.toNat : Int) - 48 := by rw [u8wrap]; omega
            clear HD HB
            generalize x.toNat = xn at *
            go_wp2_with fail
            go_roundw
            case rel => exact ⟨j + 1, by omega, by go_num, by rw [HV.out], HD2.out, trivial⟩
            case measure => simp [intOf]; omega
          · have hdb : isDigit x = false := by
              cases e : isDigit x with
              | false => rfl
              | true => exact absurd ((digit_iff x).1 e).2 c2
            rw [if_neg (by rw [HB.out hdb]; decide)] at HR
            clear HD HB HV hdb
            generalize x.toNat = xn at *
            go_wp2
            exact HR.out _ _ ⟨rfl, Mod.refl _ _⟩
        · have hdb : isDigit x = false := by
            cases e : isDigit x with
            | false => rfl
            | true => exact absurd ((digit_iff x).1 e).1 c1
          rw [if_neg (by rw [HB.out hdb]; decide)] at HR
          clear HD HB HV hdb
          generalize x.toNat = xn at *
          go_wp2
          exact HR.out _ _ ⟨rfl, Mod.refl _ _⟩
      · obtain rfl : j = p.length := by omega
        rw [List.take_length] at hd ⊢
        rw [if_pos hd] at HR
        have hb := valD_bd p hd 0 (by omega)
        have hpw : (10 : Int) ^ p.length ≤ 10000 := by
          have h5 : p.length = 0 ∨ p.length = 1 ∨ p.length = 2 ∨ p.length = 3 ∨ p.length = 4 := by omega
          rcases h5 with e | e | e | e | e <;> rw [e] <;> decide
        have HI := Lib.hid (digits_any (valD 0 p) (by unfold I64; omega))
        clear hb hpw hd
        generalize valD 0 p = v at *
        by_cases hq : Lib.itoa v = p
        · rw [decide_eq_true hq] at HR
          rw [hq] at HI
          clear hq
          go_wp2_with fail
          refine (HI.out _).mono ?_
          rintro e w2 ⟨rfl, M2⟩
          have J2 := Lib.hid M2
          clear M2
          go_wp2
          exact HR.out _ _ ⟨rfl, J2.out⟩
        · rw [decide_eq_false hq] at HR
          have hq2 : (Lib.itoa v == p) = false := by simp [hq]
          clear hq
          go_wp2_with fail
          refine (HI.out _).mono ?_
          rintro e w2 ⟨rfl, M2⟩
          have J2 := Lib.hid M2
          clear M2
          generalize Lib.itoa v = iv at *
          go_wp2
          exact HR.out _ _ ⟨rfl, J2.out⟩
end Go.Proofs.YthkcdoneghcglaaDoor
