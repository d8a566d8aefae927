import Derived.Test.YtdengmlidckkeaaGreatDoorOrdP
import Derived.Test.YtdengmlidckkeaaGreatDoorOrdQ
import Derived.Laws.AppendOwn
import Derived.Test.YtdengmlidckkeaaGreatDoorOrdZA
import Derived.Test.YtdengmlidckkeaaGreatDoorOrdZ
set_option linter.unusedSimpArgs false
set_option linter.unusedVariables false
namespace Go.Proofs.YtdengmlidckkeaaGreatDoor
open Go Go.RowKit
/-- A word that tells a text that can stand in an order. -/
def datO (x : List UInt8) : Bool := (byt x).2 && decide ((byt x).1.length ≤ 512)
/-- The words behind a kind's word are its own. -/
def okW (k : Nat) (r : List (List UInt8)) : Bool := decide (r.length = nN k + nD k) && ((r.take (nN k)).all (fun x => (num x).2) && (r.drop (nN k)).all datO)
/-- The order that they tell. -/
def refW (k : Nat) (r : List (List UInt8)) : OW := ⟨k, (r.take (nN k)).map (fun x => (num x).1), (r.drop (nN k)).map (fun x => (byt x).1)⟩
/-- The document's reading of the words. -/
def refP : List (List UInt8) → Option OW
  | [] => none
  | w :: r => match kindOf w with
    | none => none
    | some k => if okW k r then some (refW k r) else none
theorem rdNums_true : ∀ (n : Nat) (r : List (List UInt8)), (rdNums n (r, true)).2.2 = true
  | 0, _ => rfl
  | n + 1, [] => rdNums_true n []
  | n + 1, x :: r => rdNums_true n r
theorem rdDats_true : ∀ (n : Nat) (r : List (List UInt8)), (rdDats n (r, true)).2.2 = true
  | 0, _ => rfl
  | n + 1, [] => rdDats_true n []
  | n + 1, x :: r => rdDats_true n r
theorem rdNums_short : ∀ (n : Nat) (r : List (List UInt8)) (b : Bool), r.length < n → (rdNums n (r, b)).2.2 = true
  | 0, _, _, h => by omega
  | n + 1, [], b, _ => rdNums_true n []
  | n + 1, x :: r, b, h => rdNums_short n r _ (by simp at h; omega)
theorem rdDats_short : ∀ (n : Nat) (r : List (List UInt8)) (b : Bool), r.length < n → (rdDats n (r, b)).2.2 = true
  | 0, _, _, h => by omega
  | n + 1, [], b, _ => rdDats_true n []
  | n + 1, x :: r, b, h => rdDats_short n r _ (by simp at h; omega)
theorem rdNums_full : ∀ (n : Nat) (r : List (List UInt8)) (b : Bool), n ≤ r.length → rdNums n (r, b) = ((r.take n).map (fun x => (num x).1), (r.drop n, b || !(r.take n).all (fun x => (num x).2)))
  | 0, r, b, _ => by simp [rdNums]
  | n + 1, [], b, h => by simp at h
  | n + 1, x :: r, b, h => by
    have ih := rdNums_full n r (b || !(num x).2) (by simp at h; omega)
    have e : rdNum (x :: r, b) = ((num x).1, (r, b || !(num x).2)) := rfl
    rw [rdNums, e]
    dsimp only
    rw [ih]
    simp only [List.take_succ_cons, List.map_cons, List.drop_succ_cons, List.all_cons]
    congr 2
    cases b <;> cases (num x).2 <;> simp
theorem rdDats_full : ∀ (n : Nat) (r : List (List UInt8)) (b : Bool), n ≤ r.length → rdDats n (r, b) = ((r.take n).map (fun x => (byt x).1), (r.drop n, b || !(r.take n).all (fun x => (byt x).2)))
  | 0, r, b, _ => by simp [rdDats]
  | n + 1, [], b, h => by simp at h
  | n + 1, x :: r, b, h => by
    have ih := rdDats_full n r (b || !(byt x).2) (by simp at h; omega)
    have e : rdDat (x :: r, b) = ((byt x).1, (r, b || !(byt x).2)) := rfl
    rw [rdDats, e]
    dsimp only
    rw [ih]
    simp only [List.take_succ_cons, List.map_cons, List.drop_succ_cons, List.all_cons]
    congr 2
    cases b <;> cases (byt x).2 <;> simp
theorem all_dat : ∀ l : List (List UInt8), l.all datO = (l.all (fun x => (byt x).2) && l.all fun x => decide ((byt x).1.length ≤ 512))
  | [] => rfl
  | x :: r => by
    rw [List.all_cons, List.all_cons, List.all_cons, all_dat r]
    unfold datO
    cases (byt x).2 <;> cases decide ((byt x).1.length ≤ 512) <;> cases (r.all fun x => (byt x).2) <;> rfl
/-- Both read the words alike. -/
theorem parse_words (w : List UInt8) (r : List (List UInt8)) : parseW (w :: r) = refP (w :: r) := by
  unfold parseW refP
  simp only [rdNext]
  cases hk : kindOf w with
  | none => rfl
  | some k =>
    dsimp only
    suffices hs : ∀ q, q = rdKind k (r, false) → (if (q.1.fits && !q.2.2 && q.2.1.isEmpty) = true then some q.1 else none) = if okW k r = true then some (refW k r) else none from hs _ rfl
    intro q hq0
    by_cases hl : r.length = nN k + nD k
    · have e1 := rdNums_full (nN k) r false (by omega)
      have e2 := rdDats_full (nD k) (r.drop (nN k)) (false || !(r.take (nN k)).all (fun x => (num x).2)) (by rw [List.length_drop]; omega)
      have e3 : (r.drop (nN k)).take (nD k) = r.drop (nN k) := List.take_of_length_le (by rw [List.length_drop]; omega)
      have e4 : (r.drop (nN k)).drop (nD k) = [] := List.drop_eq_nil_of_le (by rw [List.length_drop]; omega)
      rw [e3, e4] at e2
      have e : rdKind k (r, false) = (refW k r, ([], (false || !(r.take (nN k)).all (fun x => (num x).2)) || !(r.drop (nN k)).all (fun x => (byt x).2))) := by
        unfold rdKind
        rw [e1]
        dsimp only
        rw [e2]; rfl
      have hf : (refW k r).fits = (r.drop (nN k)).all (fun x => decide ((byt x).1.length ≤ 512)) := by
        unfold OW.fits refW
        rw [List.all_map]; rfl
      rw [e] at hq0
      subst hq0
      dsimp only
      rw [hf]
      unfold okW
      rw [all_dat, decide_eq_true hl]
      cases (r.drop (nN k)).all (fun x => decide ((byt x).1.length ≤ 512)) <;> cases (r.take (nN k)).all (fun x => (num x).2) <;> cases (r.drop (nN k)).all (fun x => (byt x).2) <;> rfl
    · have hokW : okW k r = false := by unfold okW; rw [decide_eq_false hl]; rfl
      rw [hokW]
      rcases Nat.lt_or_ge r.length (nN k) with h1 | h1
      · have : (rdKind k (r, false)).2.2 = true := by
          unfold rdKind
          dsimp only
          have := rdNums_short (nN k) r false h1
          cases hst : (rdNums (nN k) (r, false)).2 with
          | mk a b =>
            rw [hst] at this
            obtain rfl : b = true := this
            exact rdDats_true _ _
        rw [← hq0] at this
        rw [this]; simp
      · have e1 := rdNums_full (nN k) r false h1
        rcases Nat.lt_or_ge r.length (nN k + nD k) with h2 | h2
        · have : (rdKind k (r, false)).2.2 = true := by
            unfold rdKind
            dsimp only
            rw [e1]
            exact rdDats_short _ _ _ (by rw [List.length_drop]; omega)
          rw [← hq0] at this
          rw [this]; simp
        · have : (rdKind k (r, false)).2.1.isEmpty = false := by
            unfold rdKind
            dsimp only
            rw [e1]
            dsimp only
            rw [rdDats_full _ _ _ (by rw [List.length_drop]; omega)]
            dsimp only
            cases hd : (r.drop (nN k)).drop (nD k) with
            | nil => have := congrArg List.length hd; rw [List.length_drop, List.length_drop] at this; simp at this; omega
            | cons a b => rfl
          rw [← hq0] at this
          rw [this]; simp
theorem parse_ref (l : List UInt8) : parseL l = refP (spl l) := by
  obtain ⟨w, ws, e⟩ := spl_ne l
  unfold parseL
  rw [e]; exact parse_words w ws
theorem ref_form {l : List (List UInt8)} {o : OW} (h : refP l = some o) : ∃ w r k, l = w :: r ∧ kindOf w = some k ∧ okW k r = true ∧ o = refW k r := by
  cases l with
  | nil => cases h
  | cons w r =>
    unfold refP at h
    dsimp only at h
    cases hk : kindOf w with
    | none => rw [hk] at h; cases h
    | some k =>
      rw [hk] at h
      dsimp only at h
      split at h
      · rename_i hc; cases h; exact ⟨w, r, k, rfl, hk, hc, rfl⟩
      · cases h
end Go.Proofs.YtdengmlidckkeaaGreatDoor
namespace Go.Proofs.YtdengmlidckkeaaGreatDoor
open Go Go.RowKit
/-- The bytes from one place to another. -/
def seg (l : List UInt8) (fr i : Nat) : List UInt8 := (l.drop fr).take (i - fr)
theorem seg_nil (l : List UInt8) (i : Nat) : seg l i i = [] := by unfold seg; simp
theorem seg_snoc (l : List UInt8) (fr i : Nat) (h : fr ≤ i) (c : UInt8) (hc : l[i]? = some c) : seg l fr (i + 1) = seg l fr i ++ [c] := by
  unfold seg
  rw [show i + 1 - fr = (i - fr) + 1 by omega, List.take_add_one, List.getElem?_drop, show fr + (i - fr) = i by omega, hc]; rfl
theorem seg_bytes (l : List UInt8) (fr i : Nat) : (⟨l.toArray⟩ : ByteArray).extract fr i = ⟨(seg l fr i).toArray⟩ := by
  apply ByteArray.ext
  rw [ByteArray.data_extract]
  apply Array.ext'
  unfold seg
  simp [Array.toList_extract, List.extract_eq_take_drop]
theorem seg_len (l : List UInt8) (fr i : Nat) : (seg l fr i).length ≤ l.length := by unfold seg; rw [List.length_take, List.length_drop]; omega
/-- Bytes ahead of the first word. -/
def att (p : List UInt8) : List (List UInt8) → List (List UInt8)
  | [] => [p]
  | v :: vs => (p ++ v) :: vs
theorem att_nil (l : List UInt8) : att [] (spl l) = spl l := by
  obtain ⟨v, vs, e⟩ := spl_ne l
  rw [e]; rfl
/-- What split has laid before a place. -/
def SplI (l : List UInt8) (i fr : Nat) (W : List (List UInt8)) : Prop := fr ≤ i ∧ i ≤ l.length ∧ W.length ≤ i ∧ spl l = W ++ att (seg l fr i) (spl (l.drop i))
theorem SplI.zero (l : List UInt8) : SplI l 0 0 [] := ⟨Nat.le_refl _, Nat.zero_le _, Nat.le_refl _, by rw [seg_nil, List.drop_zero, att_nil]; rfl⟩
theorem drop_at {l : List UInt8} {i : Nat} {c : UInt8} (h : l[i]? = some c) : l.drop i = c :: l.drop (i + 1) := by
  obtain ⟨q, rfl⟩ := List.getElem?_eq_some_iff.1 h
  exact List.drop_eq_getElem_cons q
theorem SplI.skip {l : List UInt8} {i fr : Nat} {W : List (List UInt8)} (h : SplI l i fr W) {c : UInt8} (hc : l[i]? = some c) (hne : c ≠ 32) : SplI l (i + 1) fr W := by
  obtain ⟨h1, h2, h4, h3⟩ := h
  have hlt : i < l.length := (List.getElem?_eq_some_iff.1 hc).1
  refine ⟨by omega, by omega, by omega, ?_⟩
  obtain ⟨v, vs, e⟩ := spl_ne (l.drop (i + 1))
  rw [h3, drop_at hc, spl_cons hne e, e, seg_snoc l fr i h1 c hc]
  show _ ++ (seg l fr i ++ c :: v) :: vs = _ ++ ((seg l fr i ++ [c]) ++ v) :: vs
  rw [List.append_assoc]; rfl
theorem SplI.cut {l : List UInt8} {i fr : Nat} {W : List (List UInt8)} (h : SplI l i fr W) (hc : l[i]? = some 32) : SplI l (i + 1) (i + 1) (W ++ [seg l fr i]) := by
  obtain ⟨h1, h2, h4, h3⟩ := h
  have hlt : i < l.length := (List.getElem?_eq_some_iff.1 hc).1
  refine ⟨Nat.le_refl _, by omega, by rw [List.length_append, List.length_singleton]; omega, ?_⟩
  rw [h3, drop_at hc, seg_nil, att_nil, List.append_assoc]
  congr 1
  rw [spl, if_pos rfl]
  show (seg l fr i ++ []) :: _ = _
  rw [List.append_nil]; rfl
theorem SplI.last {l : List UInt8} {fr : Nat} {W : List (List UInt8)} (h : SplI l l.length fr W) : spl l = W ++ [seg l fr l.length] := by
  obtain ⟨h1, h2, h4, h3⟩ := h
  rw [h3, List.drop_length]
  show _ ++ [_ ++ []] = _
  rw [List.append_nil]
theorem strV_snoc (W : List (List UInt8)) (x : List UInt8) : W.map strV ++ [.string ⟨x.toArray⟩] = (W ++ [x]).map strV := by rw [List.map_append]; rfl
set_option maxRecDepth 10000 in
set_option maxHeartbeats 2000000 in
theorem refsplit_any (l : List UInt8) (hl : l.length ≤ 100000) (w : World) : Calls Tryz.prog 43 #[.string ⟨l.toArray⟩] w fun e w' => ∃ v, e = .returned v ∧ w'.ownsRow w.heap.size 9 1 v (spl l).length ((spl l).map strV) ∧ Same w w' := by
  refine opq fun R HR => ?_
  have hsz := bytes_size l
  obtain ⟨i0, hi, hz0, hz1, hz2⟩ := info_parts info9
  have I0 := Lib.hid hi
  have Z0 := Lib.hid hz0
  have Z1 := Lib.hid hz1
  have Z2 := Lib.hid hz2
  clear hi hz0 hz1 hz2
  go_enter Tryz.func43, Tryz.ntmps43
  go_wp2_with fail
  go_loopw [3, 4, 5] (fun o f i wr => ∃ (j fr : Nat) (W : List (List UInt8)), i = .int .i64 (j : Int) ∧ f = .int .i64 (fr : Int) ∧ W.length ≤ j ∧ j ≤ l.length + 1 ∧ (SplI l j fr W ∨ j = l.length + 1 ∧ W = spl l) ∧ wr.ownsRow w.heap.size 9 1 o W.length (W.map strV) ∧ Same w wr) (fun _ _ i _ => l.length + 1 - (intOf i).toNat)
  case atStart => exact ⟨0, 0, [], rfl, rfl, by simp, by omega, .inl (SplI.zero l), ⟨rfl, .inr ⟨_, 0, #[], rfl, Nat.le_refl _, heap_new _ _, Nat.le_refl _, by unfold maxLen; omega, rfl, rfl⟩⟩, (Mod.refl _ _).alloc _⟩
  case round =>
    obtain ⟨j, fr, W, rfl, rfl, hWl, hj, hS, hown, hM⟩ := hrel
    have K1 := Lib.hid hown
    have K2 := Lib.hid hM
    have hwz : w.heap.size ≤ wr.heap.size := hM.size
    clear hown hM
    by_cases hlt : j ≤ l.length
    · have hS : SplI l j fr W := by
        rcases hS with h | ⟨h, _⟩
        · exact h
        · omega
      have hfr : fr ≤ j := hS.1
      have HS := Lib.hid hS
      have EX := Lib.hid (seg_bytes l fr j)
      have EV := Lib.hid (strV_snoc W (seg l fr j))
      clear hS
      by_cases he : j = l.length
      · have hb1 : ((j : Int) == (l.length : Int)) = true := by rw [he]; simp
        have HE := Lib.hid he
        clear he
        go_wp2_with (at_builtin; refine wpList_append_own _ rfl (.tmp 23) (.tmp 28) 29 rfl w.heap.size 9 i0 (.string ⟨#[]⟩) 1 16 Tryz.underlying29 I0.out Z0.out Z1.out Z2.out rfl (by decide) _ _ _ rfl (K1.out.alloc _) ⟨wr.heap.size, 0, none⟩ 1 1 [.string ((⟨l.toArray⟩ : ByteArray).extract fr j)] rfl rfl (one_new _ _ _) (fun u hu => (by simp at hu; subst hu; rfl)) (by unfold maxLen; omega) (by omega) (by simp only [World.size_alloc]; omega) ?_; intro v' w3 hown' hgrow _)
        have P1 := Lib.hid (same_append K2.out K1.out hgrow)
        have P2 := Lib.hid hown'
        clear hown' hgrow
        go_roundw
        case rel =>
          have hW : spl l = W ++ [seg l fr j] := by
            have h := HS.out
            have e := HE.out
            subst e
            exact h.last
          refine ⟨j + 1, j + 1, W ++ [seg l fr j], by go_num, by go_num, by rw [List.length_append, List.length_singleton]; omega, by omega, .inr ⟨by have := HE.out; omega, hW.symm⟩, ?_, P1.out⟩
          rw [← EV.out, ← EX.out, List.length_append, List.length_singleton]; exact P2.out
        case measure => simp [intOf]; omega
      · have hb1 : ((j : Int) == (l.length : Int)) = false := by simp; omega
        obtain ⟨x, hx⟩ : ∃ x, l[j]? = some x := ⟨_, List.getElem?_eq_getElem (by omega)⟩
        have kx := fun W => idx_any l j x hx (j : Int) rfl W
        have HX := Lib.hid hx
        clear hx
        by_cases h32 : x = 32
        · subst h32
          have d1 : (((32 : UInt8).toNat : Int) == 32) = true := rfl
          go_wp2_with (at_builtin; refine wpList_append_own _ rfl (.tmp 23) (.tmp 28) 29 rfl w.heap.size 9 i0 (.string ⟨#[]⟩) 1 16 Tryz.underlying29 I0.out Z0.out Z1.out Z2.out rfl (by decide) _ _ _ rfl (K1.out.alloc _) ⟨wr.heap.size, 0, none⟩ 1 1 [.string ((⟨l.toArray⟩ : ByteArray).extract fr j)] rfl rfl (one_new _ _ _) (fun u hu => (by simp at hu; subst hu; rfl)) (by unfold maxLen; omega) (by omega) (by simp only [World.size_alloc]; omega) ?_; intro v' w3 hown' hgrow _)
          have P1 := Lib.hid (same_append K2.out K1.out hgrow)
          have P2 := Lib.hid hown'
          clear hown' hgrow
          go_roundw
          case rel =>
            refine ⟨j + 1, j + 1, W ++ [seg l fr j], by go_num, by go_num, by rw [List.length_append, List.length_singleton]; omega, by omega, .inl (HS.out.cut HX.out), ?_, P1.out⟩
            rw [← EV.out, ← EX.out, List.length_append, List.length_singleton]; exact P2.out
          case measure => simp [intOf]; omega
        · have d1 : ((x.toNat : Int) == 32) = false := by
            have : x.toNat ≠ 32 := fun e => h32 (UInt8.toNat.inj e)
            simp; omega
          have HN := Lib.hid h32
          clear h32
          go_wp2_with fail
          go_roundw
          case rel => exact ⟨j + 1, fr, W, by go_num, rfl, by omega, by omega, .inl (HS.out.skip HX.out HN.out), K1.out, K2.out⟩
          case measure => simp [intOf]; omega
    · have hW : W = spl l := by
        rcases hS with h | ⟨_, h⟩
        · exact absurd h.2.1 hlt
        · exact h
      obtain rfl : j = l.length + 1 := by omega
      subst hW
      go_wp2
      exact HR.out _ _ ⟨_, rfl, K1.out, K2.out⟩
end Go.Proofs.YtdengmlidckkeaaGreatDoor
namespace Go.Proofs.YtdengmlidckkeaaGreatDoor
open Go Go.RowKit
theorem joinTail_snoc : ∀ (xs : List (List UInt8)) (y : List UInt8), Lib.joinTail [32] (xs ++ [y]) = Lib.joinTail [32] xs ++ (32 :: y)
  | [], y => by rw [List.nil_append, joinTail_cons]; simp [Lib.joinTail]
  | x :: xs, y => by rw [List.cons_append, joinTail_cons, joinTail_cons, joinTail_snoc xs y]; simp
/-- A line with its first numbers. -/
def txtA (o : OW) (i : Nat) : List UInt8 := wordL o.k ++ Lib.joinTail [32] ((o.ns.take i).map Lib.itoa)
/-- A line with all its numbers, and its first texts. -/
def txtB (o : OW) (j : Nat) : List UInt8 := wordL o.k ++ Lib.joinTail [32] (o.ns.map Lib.itoa ++ (o.ts.take j).map runesL)
theorem txtA_zero (o : OW) : txtA o 0 = wordL o.k := by unfold txtA; simp [Lib.joinTail]
theorem txtA_succ (o : OW) (i : Nat) (n : Int) (h : o.ns[i]? = some n) : (txtA o i ++ [32]) ++ Lib.itoa n = txtA o (i + 1) := by
  obtain ⟨hk, rfl⟩ := List.getElem?_eq_some_iff.1 h
  unfold txtA
  rw [List.take_succ_eq_append_getElem hk, List.map_append, List.map_singleton, joinTail_snoc]; simp
theorem txtA_all (o : OW) : txtA o o.ns.length = txtB o 0 := by unfold txtA txtB; simp
theorem txtB_succ (o : OW) (j : Nat) (t : List UInt8) (h : o.ts[j]? = some t) : (txtB o j ++ [32]) ++ runesL t = txtB o (j + 1) := by
  obtain ⟨hk, rfl⟩ := List.getElem?_eq_some_iff.1 h
  unfold txtB
  rw [List.take_succ_eq_append_getElem hk, List.map_append, List.map_singleton, ← List.append_assoc (o.ns.map Lib.itoa), joinTail_snoc]; simp
theorem txtB_all (o : OW) : txtB o o.ts.length = textO o := by
  unfold txtB textO
  rw [List.take_length, Lib.join_cons]
/-- The first texts fit. -/
def fitsTo (o : OW) (j : Nat) : Prop := ∀ t ∈ o.ts.take j, t.length ≤ 512
theorem fitsTo_zero (o : OW) : fitsTo o 0 := by intro t h; simp at h
theorem fitsTo_succ (o : OW) (j : Nat) (t : List UInt8) (h : o.ts[j]? = some t) (ht : t.length ≤ 512) (hf : fitsTo o j) : fitsTo o (j + 1) := by
  obtain ⟨hk, rfl⟩ := List.getElem?_eq_some_iff.1 h
  intro x hx
  rw [List.take_succ_eq_append_getElem hk, List.mem_append, List.mem_singleton] at hx
  rcases hx with hx | rfl
  · exact hf x hx
  · exact ht
theorem fitsTo_all (o : OW) (h : fitsTo o o.ts.length) : o.fits = true := by
  unfold fitsTo at h
  rw [List.take_length] at h
  exact List.all_eq_true.2 fun t ht => decide_eq_true (h t ht)
theorem fits_not (o : OW) (j : Nat) (t : List UInt8) (h : o.ts[j]? = some t) (ht : ¬ t.length ≤ 512) : o.fits = false := by
  have hm := List.mem_of_getElem? h
  cases hq : o.fits with
  | false => rfl
  | true => exact absurd (of_decide_eq_true (List.all_eq_true.1 hq t hm)) ht
/-- What the document tells of an order. -/
def refT (o : OW) : List UInt8 := if o.fits then textO o else []
theorem ord_small3 (o : OW) (hf : o.form) : o.ns.length ≤ 3 ∧ o.ts.length ≤ 3 := by
  have h1 := hf.nn
  have h2 := hf.nd
  have h3 : ∀ k, k < 15 → nN k ≤ 3 ∧ nD k ≤ 3 := by decide
  have := h3 o.k hf.lt
  omega
theorem words16_get (k : Nat) (h : k < 15) : words16[k + 1]? = some (wordL k) := by
  have : ∀ k, k < 15 → words16[k + 1]? = some (wordL k) := by decide
  exact this k h
set_option maxRecDepth 10000 in
set_option maxHeartbeats 4000000 in
theorem reftext_any (o : OW) (hf : o.form) (hsm : ∀ t ∈ o.ts, t.length ≤ 1000) (a b : Option Addr) (c d : Nat) (w : World) (hn : RowAt w a (o.ns.map (Value.int .i64))) (ht : RowAt w b (o.ts.map strV)) :
    Calls Tryz.prog 10 #[.agg #[.int .i64 ((o.k : Int) + 1), .slice a o.ns.length c, .slice b o.ts.length d]] w fun e w' => e = .returned (.tuple #[.string ⟨(refT o).toArray⟩, .bool o.fits]) ∧ Same w w' := by
  refine opq fun R HR => ?_
  have hk := hf.lt
  have HI := Lib.hid hf.i64
  have HS := Lib.hid hsm
  have N := Lib.hid hn
  have T := Lib.hid ht
  have WG := Lib.hid (words16_get o.k hk)
  have EA0 := Lib.hid (txtA_zero o)
  have hsm3 := ord_small3 o hf
  unfold refT at HR
  clear hn ht hsm hf
  obtain ⟨n, hnl⟩ : ∃ n, o.ns.length = n := ⟨_, rfl⟩
  obtain ⟨m, htl⟩ : ∃ m, o.ts.length = m := ⟨_, rfl⟩
  have HNL := Lib.hid hnl
  have HTL := Lib.hid htl
  obtain ⟨K, hK⟩ : ∃ K, o.k = K := ⟨_, rfl⟩
  have HK := Lib.hid hK
  rw [hnl, htl, hK]
  rw [hnl, htl] at hsm3
  rw [hK] at hk WG EA0
  have g1 : decide ((K : Int) + 1 < 1) = false := decide_eq_false (by omega)
  have g2 : decide ((15 : Int) < (K : Int) + 1) = false := decide_eq_false (by omega)
  clear hnl htl hK
  go_enter Tryz.func10, Tryz.ntmps10
  go_wp2_with fail
  clear g1 g2
  have S0 := Lib.hid ((Mod.refl (fun _ => False) w).alloc (.cells #[.int .i64 ((K : Int) + 1), .slice a n c, .slice b m d] 32))
  have B0 := Lib.hid (Blk.new w #[.int .i64 ((K : Int) + 1), .slice a n c, .slice b m d] 32)
  generalize w.alloc _ = W at *
  generalize hZ : w.heap.size = Z at *
  have N := Lib.hid (N.out.same S0.out)
  have T := Lib.hid (T.out.same S0.out)
  have hc0 : W.cell? ⟨Z, 0, none⟩ = some (.int .i64 ((K : Int) + 1)) := B0.out.cell 0
  have hlt0 := B0.out.lt
  have b1 : (0 : Int) ≤ (K : Int) + 1 := by omega
  have b2 : (K : Int) + 1 < 16 := by omega
  have b3 : ((K : Int) + 1).toNat = K + 1 := by omega
  have hA0 : (txtA o 0).length ≤ 10 := by
    rw [EA0.out]
    have h : ∀ k, k < 15 → (wordL k).length ≤ 10 := by decide
    exact h K hk
  go_cut [4] (fun v wx => v = .string ⟨(txtA o 0).toArray⟩ ∧ Same W wx)
  case first => as_aux_lemma =>
    go_region_with (first | (go_at_call 12; refine (words16_any _).mono ?_; rintro e w5 ⟨g, rfl, hB5, M5⟩; have A5 := Lib.hid ((Mod.refl (fun _ => False) W).drew.same M5); have hc5 := (A5.out.cell hlt0 (fun q => q) 0).trans hc0; have hg5 : w5.cell? ⟨g, K + 1, none⟩ = some (strV (wordL K)) := (hB5.cell (K + 1)).trans (by rw [List.getElem?_toArray, List.getElem?_map, WG.out]; rfl); unfold strV at hg5; clear M5 hB5))
    all_goals
      go_wp2_with go_in
      go_meet
      exact ⟨by rw [EA0.out], A5.out⟩
  case rest =>
    obtain ⟨rfl, hM0⟩ := hcut
    have A5 := Lib.hid hM0
    have B5 := Lib.hid (B0.out.mod A5.out (fun q => q))
    have N5 := Lib.hid (N.out.same A5.out)
    have T5 := Lib.hid (T.out.same A5.out)
    have S5 := Lib.hid (S0.out.same A5.out)
    clear hc0 hlt0 b1 b2 b3 S0 B0 N T A5 hM0
    go_wp2_with fail
    go_loopw [4, 5] (fun t i wr => ∃ j : Nat, j ≤ n ∧ i = .int .i64 (j : Int) ∧ t = .string ⟨(txtA o j).toArray⟩ ∧ (txtA o j).length ≤ 10 + 30 * j ∧ Same wc wr) (fun _ i _ => n - (intOf i).toNat)
    case atStart => exact ⟨0, by omega, rfl, rfl, by omega, Mod.refl _ _⟩
    case round =>
      obtain ⟨j, hj, rfl, rfl, hln, hM⟩ := hrel
      have L1 := Lib.hid hM
      have hb1 := (B5.out.mod hM (fun q => q)).cell
      by_cases hlt : j < n
      · obtain ⟨x, hx⟩ : ∃ x, o.ns[j]? = some x := ⟨_, List.getElem?_eq_getElem (by rw [HNL.out]; exact hlt)⟩
        obtain ⟨ga, oa, ea, hga, hca⟩ := N5.out (by rw [List.length_map, HNL.out]; omega)
        subst ea
        have hcx := (hM.cell hga (fun q => q) (oa + j)).trans (hca j (.int .i64 x) (by rw [List.getElem?_map, hx]; rfl))
        have E := Lib.hid (txtA_succ o j x hx)
        have HD := Lib.hid (digits_any x (HI.out x (List.mem_of_getElem? hx)) wr)
        have hdx : (Lib.itoa x).length ≤ 21 := by
          have h := HI.out x (List.mem_of_getElem? hx)
          have := Lib.itoa_length_le x h.1 h.2
          omega
        have hbt := bytes_size (txtA o j)
        have hbd := bytes_size (Lib.itoa x)
        have EL := Lib.hid (congrArg List.length E.out)
        clear hx hga hca hM
        generalize txtA o j = tj at *
        generalize Lib.itoa x = dx at *
        go_wp2_with fail
        refine HD.out.mono ?_
        rintro e w6 ⟨rfl, M6⟩
        have L2 := Lib.hid (L1.out.same M6)
        clear hb1 hcx M6 HD
        go_wp2_with fail
        go_roundw
        case rel => exact ⟨j + 1, by omega, by go_num, by rw [← E.out, ← str_app, ← str_app], by have := EL.out; rw [List.length_append, List.length_append, List.length_singleton] at this; omega, L2.out⟩
        case measure => simp [intOf]; omega
      · obtain rfl : j = n := by omega
        have EB : txtA o j = txtB o 0 := by rw [← HNL.out]; exact txtA_all o
        rw [EB]
        clear hM HI
        have hln2 : (txtB o 0).length ≤ 100 := by rw [← EB]; omega
        clear EB hln
        go_wp2_with fail
        clear hb1
        go_loopw [4, 6] (fun t i wr => ∃ q : Nat, q ≤ m ∧ i = .int .i64 (q : Int) ∧ t = .string ⟨(txtB o q).toArray⟩ ∧ (txtB o q).length ≤ 100 + 1600 * q ∧ fitsTo o q ∧ Same wc wr) (fun _ i _ => m - (intOf i).toNat)
        case atStart => exact ⟨0, by omega, rfl, rfl, by omega, fitsTo_zero o, L1.out⟩
        case round =>
          obtain ⟨q, hq, rfl, rfl, hln, hft, hM⟩ := hrel
          clear L1
          have L1 := Lib.hid hM
          have F := Lib.hid hft
          have hb1 := (B5.out.mod hM (fun q => q)).cell
          clear hft
          by_cases hlt : q < m
          · obtain ⟨x, hx⟩ : ∃ x, o.ts[q]? = some x := ⟨_, List.getElem?_eq_getElem (by rw [HTL.out]; exact hlt)⟩
            obtain ⟨ga, oa, ea, hga, hca⟩ := T5.out (by rw [List.length_map, HTL.out]; omega)
            subst ea
            have hcx := (hM.cell hga (fun q => q) (oa + q)).trans (hca q (strV x) (by rw [List.getElem?_map, hx]; rfl))
            unfold strV at hcx
            have hbx := bytes_size x
            have HX := Lib.hid hx
            clear hx hga hca hM
            by_cases hx5 : x.length ≤ 512
            · have E := Lib.hid (txtB_succ o q x HX.out)
              have F2 := Lib.hid (fitsTo_succ o q x HX.out hx5 F.out)
              have HD := Lib.hid (refrunes_any x (by omega) wr)
              have g1 : decide ((512 : Int) < (x.length : Int)) = false := decide_eq_false (by omega)
              have hdx := runes_le x
              have hbt := bytes_size (txtB o q)
              have hbd := bytes_size (runesL x)
              have EL := Lib.hid (congrArg List.length E.out)
              have hx5' := hx5
              clear hx5
              generalize txtB o q = tj at *
              generalize runesL x = dx at *
              go_wp2_with fail
              refine HD.out.mono ?_
              rintro e w6 ⟨rfl, M6⟩
              have L2 := Lib.hid (L1.out.same M6)
              clear hb1 hcx M6 HD g1 hbx
              go_wp2_with fail
              go_roundw
              case rel => exact ⟨q + 1, by omega, by go_num, by rw [← E.out, ← str_app, ← str_app], by have := EL.out; rw [List.length_append, List.length_append, List.length_singleton] at this; omega, F2.out, L2.out⟩
              case measure => simp [intOf]; omega
            · have FN := fits_not o q x HX.out hx5
              have g1 : decide ((512 : Int) < (x.length : Int)) = true := decide_eq_true (by omega)
              rw [FN] at HR
              clear hx5 FN
              go_wp2_with fail
              exact HR.out _ _ ⟨rfl, S5.out.same L1.out⟩
          · obtain rfl : q = m := by omega
            have FA : o.fits = true := fitsTo_all o (by have := F.out; rwa [← HTL.out] at this)
            have EB : txtB o q = textO o := by rw [← HTL.out]; exact txtB_all o
            rw [FA] at HR
            rw [EB]
            clear hM EB FA
            go_wp2_with fail
            exact HR.out _ _ ⟨rfl, S5.out.same L1.out⟩
end Go.Proofs.YtdengmlidckkeaaGreatDoor
namespace Go.Proofs.YtdengmlidckkeaaGreatDoor
open Go Go.RowKit
/-- The kind found before a place. -/
def kd (w : List UInt8) (j : Nat) : Int := match kindOf w with
  | some k => if k + 1 < j then (k : Int) + 1 else 0
  | none => 0
theorem kd_one (w : List UInt8) : kd w 1 = 0 := by
  unfold kd
  cases kindOf w with
  | none => rfl
  | some k => dsimp only; rw [if_neg (by omega)]
theorem kd_hit (w : List UInt8) (k : Nat) (hk : k < 15) (h : wordL k = w) : kd w (k + 1 + 1) = ((k + 1 : Nat) : Int) := by
  unfold kd
  rw [← h, kind_word k hk]
  dsimp only
  rw [if_pos (by omega)]; rfl
theorem kd_miss (w : List UInt8) (k : Nat) (h : ¬ wordL k = w) : kd w (k + 1 + 1) = kd w (k + 1) := by
  unfold kd
  cases hq : kindOf w with
  | none => rfl
  | some q =>
    dsimp only
    have h2 := (kind_lt hq).2
    have : q ≠ k := by intro e; subst e; exact h h2
    by_cases h3 : q + 1 < k + 1
    · rw [if_pos h3, if_pos (by omega)]
    · rw [if_neg h3, if_neg (by omega)]
theorem kd_none {w : List UInt8} (h : kindOf w = none) (j : Nat) : kd w j = 0 := by unfold kd; rw [h]
theorem kd_end {w : List UInt8} {k : Nat} (h : kindOf w = some k) : kd w 16 = ((k + 1 : Nat) : Int) := by
  have := (kind_lt h).1
  unfold kd
  rw [h]
  dsimp only
  rw [if_pos (by omega)]; rfl
/-- How many numbers and texts: of none, and of each kind. -/
def cntL : List Int := [0, 0, 2, 0, 1, 0, 2, 0, 2, 0, 1, 0, 1, 0, 3, 0, 2, 1, 3, 0, 0, 0, 1, 0, 0, 0, 0, 0, 1, 0, 0, 3]
theorem cnt_at : ∀ k, k < 15 → cntL[2 * (k + 1)]? = some ((nN k : Nat) : Int) ∧ cntL[2 * (k + 1) + 1]? = some ((nD k : Nat) : Int) := by decide
/-- The kind found, and how many numbers and texts it has. -/
theorem kd_last (w : List UInt8) : ∃ K c0 c1 : Nat, kd w 16 = (K : Int) ∧ K ≤ 15 ∧ cntL[2 * K]? = some (c0 : Int) ∧ cntL[2 * K + 1]? = some (c1 : Int) ∧ c0 ≤ 3 ∧ c1 ≤ 3 ∧ ((kindOf w = none ∧ K = 0) ∨ ∃ k, kindOf w = some k ∧ k < 15 ∧ K = k + 1 ∧ c0 = nN k ∧ c1 = nD k) := by
  cases h : kindOf w with
  | none => exact ⟨0, 0, 0, kd_none h 16, by omega, rfl, rfl, by omega, by omega, .inl ⟨rfl, rfl⟩⟩
  | some k =>
    have hk := (kind_lt h).1
    have h3 : ∀ k, k < 15 → nN k ≤ 3 ∧ nD k ≤ 3 := by decide
    exact ⟨k + 1, nN k, nD k, kd_end h, by omega, (cnt_at k hk).1, (cnt_at k hk).2, (h3 k hk).1, (h3 k hk).2, .inr ⟨k, rfl, hk, rfl, rfl, rfl⟩⟩
def nA (n : Nat) (r : List (List UInt8)) (j : Nat) : List (List UInt8) := (r.take j).take n
def dA (n : Nat) (r : List (List UInt8)) (j : Nat) : List (List UInt8) := (r.take j).drop n
theorem nA_lo (n : Nat) (r : List (List UInt8)) (j : Nat) (x : List UInt8) (hx : r[j]? = some x) (h : j < n) : nA n r (j + 1) = nA n r j ++ [x] ∧ dA n r (j + 1) = dA n r j := by
  obtain ⟨hk, rfl⟩ := List.getElem?_eq_some_iff.1 hx
  unfold nA dA
  have hl : (r.take j).length = j := by rw [List.length_take]; omega
  rw [List.take_succ_eq_append_getElem hk]
  refine ⟨?_, ?_⟩
  · have h1 : (r.take j).take n = r.take j := List.take_of_length_le (by omega)
    rw [h1]
    exact List.take_of_length_le (by rw [List.length_append, hl, List.length_singleton]; omega)
  · have h1 : (r.take j).drop n = [] := List.drop_eq_nil_of_le (by omega)
    rw [h1]
    exact List.drop_eq_nil_of_le (by rw [List.length_append, hl, List.length_singleton]; omega)
theorem nA_hi (n : Nat) (r : List (List UInt8)) (j : Nat) (x : List UInt8) (hx : r[j]? = some x) (h : n ≤ j) : nA n r (j + 1) = nA n r j ∧ dA n r (j + 1) = dA n r j ++ [x] := by
  obtain ⟨hk, rfl⟩ := List.getElem?_eq_some_iff.1 hx
  unfold nA dA
  have hl : (r.take j).length = j := by rw [List.length_take]; omega
  rw [List.take_succ_eq_append_getElem hk]
  exact ⟨List.take_append_of_le_length (by omega), List.drop_append_of_le_length (by omega)⟩
theorem nA_zero (n : Nat) (r : List (List UInt8)) : nA n r 0 = [] ∧ dA n r 0 = [] := by unfold nA dA; simp
theorem nA_end (n : Nat) (r : List (List UInt8)) : nA n r r.length = r.take n ∧ dA n r r.length = r.drop n := by unfold nA dA; simp
theorem nA_len (n : Nat) (r : List (List UInt8)) (j : Nat) : (nA n r j).length ≤ j ∧ (dA n r j).length ≤ j := by
  unfold nA dA
  rw [List.length_take, List.length_drop, List.length_take]; omega
def numsV (l : List (List UInt8)) : List Value := l.map fun x => .int .i64 (num x).1
def datsV (l : List (List UInt8)) : List Value := l.map fun x => strV (byt x).1
theorem numsV_len (l : List (List UInt8)) : (numsV l).length = l.length := List.length_map _
theorem datsV_len (l : List (List UInt8)) : (datsV l).length = l.length := List.length_map _
theorem numsV_snoc (l : List (List UInt8)) (x : List UInt8) : numsV l ++ [.int .i64 (num x).1] = numsV (l ++ [x]) := by unfold numsV; rw [List.map_append]; rfl
theorem datsV_snoc (l : List (List UInt8)) (x : List UInt8) : datsV l ++ [.string ⟨(byt x).1.toArray⟩] = datsV (l ++ [x]) := by unfold datsV; rw [List.map_append]; rfl
theorem refW_ns (k : Nat) (r : List (List UInt8)) : (refW k r).ns.map (Value.int .i64) = numsV (r.take (nN k)) := by unfold refW numsV; rw [List.map_map]; rfl
theorem refW_ts (k : Nat) (r : List (List UInt8)) : (refW k r).ts.map strV = datsV (r.drop (nN k)) := by unfold refW datsV; rw [List.map_map]; rfl
theorem okW_len {k : Nat} {r : List (List UInt8)} (h : ¬ r.length = nN k + nD k) : okW k r = false := by unfold okW; rw [decide_eq_false h]; rfl
theorem okW_num {k : Nat} {r : List (List UInt8)} {j : Nat} {x : List UInt8} (hx : r[j]? = some x) (h : j < nN k) (hn : (num x).2 = false) : okW k r = false := by
  unfold okW
  have : (r.take (nN k)).all (fun x => (num x).2) = false := by
    rw [List.all_eq_false]
    refine ⟨x, ?_, by rw [hn]; decide⟩
    apply List.mem_of_getElem? (i := j)
    rw [List.getElem?_take, if_pos h, hx]
  rw [this]; simp
theorem okW_dat {k : Nat} {r : List (List UInt8)} {j : Nat} {x : List UInt8} (hx : r[j]? = some x) (h : nN k ≤ j) (hn : datO x = false) : okW k r = false := by
  unfold okW
  have : (r.drop (nN k)).all datO = false := by
    rw [List.all_eq_false]
    refine ⟨x, ?_, by rw [hn]; decide⟩
    apply List.mem_of_getElem? (i := j - nN k)
    rw [List.getElem?_drop, show nN k + (j - nN k) = j by omega, hx]
  rw [this]; simp
theorem okW_all {k : Nat} {r : List (List UInt8)} (hl : r.length = nN k + nD k) (h1 : ∀ x ∈ nA (nN k) r r.length, (num x).2 = true) (h2 : ∀ x ∈ dA (nN k) r r.length, datO x = true) : okW k r = true := by
  rw [(nA_end _ _).1] at h1
  rw [(nA_end _ _).2] at h2
  unfold okW
  rw [decide_eq_true hl, List.all_eq_true.2 h1, List.all_eq_true.2 h2]; rfl
/-- The rows' blocks are two. -/
theorem own_ne {w : World} {B n m : Nat} {v u : Value} {xs ys : List Value} (h1 : w.ownsRow B 3 1 v n xs) (h2 : w.ownsRow B 9 1 u m ys) : (u.ownBlock = none ∨ u.ownBlock ≠ v.ownBlock) ∧ (v.ownBlock = none ∨ v.ownBlock ≠ u.ownBlock) := by
  have key : ∀ g, v.ownBlock = some g → u.ownBlock = some g → False := by
    intro g h h'
    obtain ⟨c, f, e⟩ := owns_kind h1 g h
    obtain ⟨c', f', e'⟩ := owns_kind h2 g h'
    rw [e] at e'
    exact absurd e' (by simp)
  constructor
  · cases hu : u.ownBlock with
    | none => exact .inl rfl
    | some g => exact .inr fun e => key g e.symm hu
  · cases hv : v.ownBlock with
    | none => exact .inl rfl
    | some g => exact .inr fun e => key g hv e.symm
/-- A row of the call's own, as a row in memory. -/
theorem owns_rowAt {w : World} {B e n : Nat} {a : Option Addr} {c : Nat} {xs : List Value} (h : w.ownsRow B e 1 (.slice a n c) n xs) : RowAt w a xs := by
  intro hp
  have hn : 0 < n := by have := h.1; omega
  obtain ⟨g, cap, hv, hb, hc, hrow⟩ := RowV.of_owns h hn
  injection hv with ha _ _
  refine ⟨g, 0, ha, hrow.lt, fun i v hi => ?_⟩
  have hl : i < xs.length := (List.getElem?_eq_some_iff.1 hi).1
  rw [Nat.zero_add]
  refine (hrow.cell i (by have := h.1; omega)).trans ?_
  rw [List.getD_eq_getElem?_getD, hi]; rfl
theorem counts_any (w : World) : Calls Tryz.prog 44 #[] w fun e w' => ∃ g, e = .returned (.slice (some ⟨g, 0, none⟩) 16 16) ∧ Blk w' g (cntL.map (Value.int .i64)).toArray ∧ Same w w' := by
  refine opq fun R HR => ?_
  go_enter Tryz.func44, Tryz.ntmps44
  go_wp2_with fail
  exact HR.out _ _ ⟨w.heap.size, rfl, Blk.new w _ _, (Mod.refl _ _).alloc _⟩
/-- What the document's Parse hands back. -/
def RefA (q : Option OW) (w : World) (e : Ending) (w' : World) : Prop := (match q with
  | none => e = .returned (.tuple #[.agg #[.int .i64 0, .slice none 0 0, .slice none 0 0], .bool false])
  | some o => ∃ a1 c1 a2 c2, e = .returned (.tuple #[.agg #[.int .i64 ((o.k : Int) + 1), .slice a1 o.ns.length c1, .slice a2 o.ts.length c2], .bool true]) ∧ RowAt w' a1 (o.ns.map (Value.int .i64)) ∧ RowAt w' a2 (o.ts.map strV)) ∧ Same w w'
end Go.Proofs.YtdengmlidckkeaaGreatDoor
