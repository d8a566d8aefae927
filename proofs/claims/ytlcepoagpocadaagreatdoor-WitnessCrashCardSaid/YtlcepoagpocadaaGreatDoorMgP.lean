import Derived.Test.YtlcepoagpocadaaGreatDoorMgH
import Derived.Laws.IdiomRangeMap
set_option linter.unusedSimpArgs false
set_option linter.unusedVariables false
set_option maxRecDepth 100000
/- The sectors that a text tells of a place; whether sectors are zeros. -/
namespace Go.Proofs.YtlcepoagpocadaaGreatDoor
open Go Go.RowKit
theorem one_str (b : ByteArray) : ∀ u ∈ [Value.string b], u.oneCell' = true := fun u hu => by simp at hu; subst hu; rfl
def toldL (k : Nat) (s : List UInt8) (p : Nat) : List (List UInt8) := (List.range k).map fun i => (s.drop ((p * k + i) * 16)).take 16
theorem toldL_take (k : Nat) (s : List UInt8) (p i : Nat) (h : i < k) : (toldL k s p).take (i + 1) = (toldL k s p).take i ++ [(s.drop ((p * k + i) * 16)).take 16] := by
  unfold toldL
  rw [List.take_add_one, List.getElem?_map, List.getElem?_range h]
  rfl
theorem toldL_len (k : Nat) (s : List UInt8) (p : Nat) : (toldL k s p).length = k := by unfold toldL; simp
set_option maxHeartbeats 8000000 in
theorem told_any (w : World) (m vm k p : Nat) (l : List UInt8) (hm : Blk w m #[.int .i64 (k : Int), .map (some vm)]) (hk1 : 1 ≤ k) (hk8 : k ≤ 8) (hp : p < 64) (hl : (p + 1) * k * 16 ≤ l.length) (hl2 : l.length ≤ 1000000) :
    Calls Tryz.prog 100 #[bp m, .string ⟨l.toArray⟩, .int .i64 (p : Int)] w fun e w' => ∃ g cap, e = .returned (.slice (some ⟨g, 0, none⟩) k cap) ∧ RowV w' g k (txF (toldL k l p)) ∧ w.heap.size ≤ g ∧ Same w w' := by
  refine opq fun R HR => ?_
  obtain ⟨i0, hi, hz0, hz1, hz2⟩ := info_parts info9
  have I0 := Lib.hid hi
  have Z0 := Lib.hid hz0
  have Z1 := Lib.hid hz1
  have Z2 := Lib.hid hz2
  have HMB := Lib.hid hm
  have k0 := hm.at_ (i := 0) (.int .i64 (k : Int)) rfl
  obtain ⟨q, hq⟩ : ∃ q, p * k = q := ⟨_, rfl⟩
  have hqb : q ≤ 63 * 8 := by rw [← hq]; exact Nat.mul_le_mul (by omega) hk8
  have hqk : (q + k) * 16 ≤ l.length := by rw [Nat.add_mul, Nat.one_mul, hq] at hl; exact hl
  have hwm : IntKind.i64.wrap ((p : Int) * (k : Int)) = (q : Int) := by
    rw [show (p : Int) * (k : Int) = ((p * k : Nat) : Int) by simp, hq]; exact IntWalk.i64_in _ (by omega)
  have HQ := Lib.hid hq
  clear hi hz0 hz1 hz2 hm hl hq
  go_enter Tryz.func100, Tryz.ntmps100
  go_wp2_with fail
  go_loopw [14, 7] (fun i v wr => ∃ j : Nat, j ≤ k ∧ i = .int .i64 j ∧ wr.ownsRow w.heap.size 9 1 v j (((toldL k l p).take j).map strV) ∧ Same w wr) (fun i _ _ => k - (intOf i).toNat)
  case atStart => exact ⟨0, Nat.zero_le _, rfl, World.ownsRow_nil _ _ _ _, Mod.refl _ _⟩
  case round =>
    obtain ⟨j, hj, rfl, hown, hM⟩ := hrel
    have OX := Lib.hid hown
    have J := Lib.hid hM
    have hsz := hM.size
    clear hown hM
    by_cases hlt : j < k
    · have k1 := (HMB.out.mod J.out (fun q => q)).at_ (i := 0) (.int .i64 (k : Int)) rfl
      have TK := Lib.hid (toldL_take k l p j hlt)
      have hex : (⟨l.toArray⟩ : ByteArray).extract ((q + j) * 16) ((q + j) * 16 + 16) = ⟨((l.drop ((q + j) * 16)).take 16).toArray⟩ := by
        apply ByteArray.ext
        rw [ByteArray.data_extract]
        apply Array.ext'
        simp [Array.toList_extract, List.extract_eq_take_drop]
      rw [HQ.out] at TK
      obtain ⟨sec, hsec⟩ : ∃ z, (l.drop ((q + j) * 16)).take 16 = z := ⟨_, rfl⟩
      rw [hsec] at TK hex
      clear hsec
      have hb1 : (q + j) * 16 + 16 ≤ l.length := by omega
      go_wp2_with (at_builtin; refine wpList_append_own _ rfl (.tmp 26) (.tmp 32) 32 rfl w.heap.size 9 i0 (.string ⟨#[]⟩) 1 16 Tryz.underlying32 I0.out Z0.out Z1.out Z2.out rfl (by decide) _ _ _ rfl (OX.out.alloc _) ⟨wr.heap.size, 0, none⟩ 1 1 [.string ⟨sec.toArray⟩] rfl rfl (one_new wr (.string ⟨sec.toArray⟩) 9) (one_str _) (by unfold maxLen; omega) (by omega) (by simp only [World.size_alloc]; omega) ?_; intro v3 w3 hown' hgrow _; have OW := Lib.hid hown'; have MG := Lib.hid (same_append J.out OX.out hgrow); clear hown' hgrow)
      have OW2 := OW.out
      have OW3 := Lib.hid (show w3.ownsRow w.heap.size 9 1 v3 (j + 1) (((toldL k l p).take (j + 1)).map strV) by rw [TK.out, List.map_append]; exact OW2)
      clear OW2 OW
      go_roundw
      case rel => exact ⟨j + 1, by omega, by go_num, OW3.out, MG.out⟩
      case measure => simp [intOf]; omega
    · obtain rfl : j = k := by omega
      have hO := OX.out
      rw [List.take_of_length_le (by rw [toldL_len]; exact Nat.le_refl _)] at hO
      obtain ⟨g, cap, rfl, hb, hc, hrow⟩ := RowV.of_owns hO hk1
      rw [Nat.mul_one] at hrow
      go_wp2
      exact HR.out _ _ ⟨g, cap, rfl, hrow.congr (fun i hi => txF_map _ i (by rw [toldL_len]; exact hi)), hb, J.out⟩
end Go.Proofs.YtlcepoagpocadaaGreatDoor
set_option maxRecDepth 100000
/- Whether sectors are zeros. -/
namespace Go.Proofs.YtlcepoagpocadaaGreatDoor
open Go Go.RowKit
theorem nz_any (w : World) (x : List UInt8) : Calls Tryz.prog 124 #[.string ⟨x.toArray⟩] w fun e w' => e = .returned (.bool (x != zero16)) ∧ Same w w' := by
  refine opq fun R HR => ?_
  go_enter Tryz.func124, Tryz.ntmps124
  go_wp2_with fail
  refine (zero_any _).mono ?_
  rintro e w1 ⟨rfl, hM⟩
  have M := Lib.hid hM
  clear hM
  unfold strV
  go_wp2
  exact HR.out _ _ ⟨by simp [bne], M.out⟩
set_option maxHeartbeats 4000000 in
theorem idxNz_any (w : World) (v1 : Value) (xs : List (List UInt8)) (h1 : TxS w v1 xs) (hl : xs.length ≤ 1000000) :
    Calls Tryz.prog 145 #[v1, .func (.func 124) #[] #[]] w fun e w' => ∃ i : Int, e = .returned (.int .i64 i) ∧ decide (0 ≤ i) = !xs.all (fun x => x == zero16) ∧ -1 ≤ i ∧ i ≤ 1000000 ∧ Same w w' := by
  refine opq fun R HR => ?_
  obtain ⟨a1, c1, rfl, k1⟩ := h1.ex
  have K1 := Lib.hid k1
  obtain ⟨n1, hn1⟩ : ∃ n, xs.length = n := ⟨_, rfl⟩
  rw [hn1] at K1 hl ⊢
  have N1 := Lib.hid hn1
  clear h1 k1 hn1
  go_enter Tryz.func145, Tryz.ntmps145
  go_wp2_with fail
  go_loopw [8] (fun i wr => ∃ j : Nat, j ≤ n1 ∧ i = .int .i64 j ∧ (∀ x ∈ xs.take j, x = zero16) ∧ Same w wr) (fun i _ => n1 - (intOf i).toNat)
  case atStart => exact ⟨0, Nat.zero_le _, rfl, by simp, Mod.refl _ _⟩
  case round =>
    obtain ⟨j, hj, rfl, ht, hM⟩ := hrel
    have HT := Lib.hid ht
    have J := Lib.hid hM
    clear ht hM
    by_cases hlt : j < n1
    · obtain ⟨x, hx⟩ : ∃ x, xs[j]? = some x := ⟨_, List.getElem?_eq_getElem (by rw [N1.out]; exact hlt)⟩
      obtain ⟨g1, rfl, r1⟩ := K1.out (by omega)
      have q1 := ((r1.mod J.out (fun q => q)).cell j hlt).trans (show _ = some (Value.string ⟨x.toArray⟩) by unfold txF; rw [List.getD_eq_getElem?_getD, hx]; rfl)
      have tk : xs.take (j + 1) = xs.take j ++ [x] := by
        obtain ⟨h1, h2⟩ := List.getElem?_eq_some_iff.1 hx
        rw [List.take_succ_eq_append_getElem h1, h2]
      have TK := Lib.hid tk
      have HX := Lib.hid hx
      clear tk hx r1
      have hi0 : (0 : Int) ≤ (j : Int) := by omega
      have hi1 : (j : Int) < (n1 : Int) := by omega
      go_wp2_with fail
      refine (nz_any _ x).mono ?_
      rintro e w1 ⟨rfl, hM⟩
      have M1 := Lib.hid (J.out.same hM)
      clear hM
      by_cases hxy : x = zero16
      · have hb : (x != zero16) = false := by rw [hxy]; rfl
        rw [hb]
        go_wp2_with fail
        go_roundw
        case rel => exact ⟨j + 1, by omega, by go_num, by rw [TK.out]; intro y hy; rcases List.mem_append.1 hy with hy | hy; exact HT.out y hy; rw [List.mem_singleton.1 hy, hxy], M1.out⟩
        case measure => simp [intOf]; omega
      · have hb : (x != zero16) = true := by simpa using hxy
        rw [hb]
        go_wp2
        refine HR.out _ _ ⟨(j : Int), rfl, ?_, by omega, by omega, M1.out⟩
        have hd : xs.all (fun x => x == zero16) = false := by
          rw [List.all_eq_false]
          exact ⟨x, List.mem_of_getElem? HX.out, by simpa using hxy⟩
        rw [hd]
        simp
    · obtain rfl : j = n1 := by omega
      have hd : xs.all (fun x => x == zero16) = true := by
        have := HT.out
        rw [List.take_of_length_le (by rw [N1.out]; exact Nat.le_refl _)] at this
        rw [List.all_eq_true]
        intro x hx
        simpa using this x hx
      go_wp2
      exact HR.out _ _ ⟨-1, rfl, by rw [hd]; rfl, by omega, by omega, J.out⟩
theorem hasNz_any (w : World) (v1 : Value) (xs : List (List UInt8)) (h1 : TxS w v1 xs) (hl : xs.length ≤ 1000000) :
    Calls Tryz.prog 123 #[v1, .func (.func 124) #[] #[]] w fun e w' => e = .returned (.bool (!xs.all (fun x => x == zero16))) ∧ Same w w' := by
  refine opq fun R HR => ?_
  have H1 := Lib.hid h1
  clear h1
  go_enter Tryz.func123, Tryz.ntmps123
  go_wp2_with fail
  refine (idxNz_any _ v1 xs H1.out hl).mono ?_
  rintro e w1 ⟨i, rfl, hi, hi0, hi1, hM⟩
  have M := Lib.hid hM
  have HI := Lib.hid hi
  clear hM hi
  go_wp2
  exact HR.out _ _ ⟨by rw [← HI.out]; rfl, M.out⟩
set_option maxHeartbeats 1000000 in
theorem isZero_any (w : World) (v1 : Value) (xs : List (List UInt8)) (h1 : TxS w v1 xs) (hl : xs.length ≤ 1000000) :
    Calls Tryz.prog 101 #[v1] w fun e w' => e = .returned (.bool (xs.all (fun x => x == zero16))) ∧ Same w w' := by
  refine opq fun R HR => ?_
  have H1 := Lib.hid h1
  clear h1
  go_enter Tryz.func101, Tryz.ntmps101
  go_wp2_with fail
  refine (hasNz_any _ v1 xs H1.out hl).mono ?_
  rintro e w1 ⟨rfl, hM⟩
  have M := Lib.hid hM
  clear hM
  go_wp2
  exact HR.out _ _ ⟨by simp, M.out⟩
end Go.Proofs.YtlcepoagpocadaaGreatDoor
set_option maxRecDepth 100000
/- What is told of places: the pairs (a place's chunk, its told sectors), and the map that holds them. -/
namespace Go.Proofs.YtlcepoagpocadaaGreatDoor
open Go Go.RowKit
abbrev Pr := Option Nat × List (List UInt8)
def tellV (k : Nat) (v : Vo) (t : List UInt8) (n : Nat) : List Pr := (List.range n).map fun (p : Nat) => (getL (p : Int) v.pl, toldL k t p)
def tellA (k : Nat) (l : List (Vo × List UInt8)) : List Pr := l.flatMap fun x => tellV k x.1 x.2 x.1.size.toNat
structure FitP (pre : List Pr) : Prop where
  zero : ∀ s, (none, s) ∈ pre → s.all (fun x => x == zero16) = true
  one : ∀ c s s', (some c, s) ∈ pre → (some c, s') ∈ pre → s = s'
theorem FitP.nil : FitP [] := ⟨by simp, by simp⟩
theorem FitP.left {a b : List Pr} (h : FitP (a ++ b)) : FitP a := ⟨fun s hs => h.zero s (by simp [hs]), fun c s s' h1 h2 => h.one c s s' (by simp [h1]) (by simp [h2])⟩
theorem tellV_succ (k : Nat) (v : Vo) (t : List UInt8) (n : Nat) : tellV k v t (n + 1) = tellV k v t n ++ [(getL (n : Int) v.pl, toldL k t n)] := by
  unfold tellV
  rw [List.range_succ, List.map_append]
  rfl
theorem tellA_take {k i : Nat} {l : List (Vo × List UInt8)} {x : Vo × List UInt8} (h : l[i]? = some x) : tellA k (l.take (i + 1)) = tellA k (l.take i) ++ tellV k x.1 x.2 x.1.size.toNat := by
  obtain ⟨h1, h2⟩ := List.getElem?_eq_some_iff.1 h
  unfold tellA
  rw [List.take_succ_eq_append_getElem h1, h2, List.flatMap_append]
  simp
structure TM (w : World) (mb base k : Nat) (pre : List Pr) (L : List (Option Nat × Value)) : Prop where
  pm : PM w mb L
  row : ∀ x ∈ L, ∃ s g cap, (x.1, s) ∈ pre ∧ x.2 = .slice (some ⟨g, 0, none⟩) k cap ∧ s.length = k ∧ RowV w g k (txF s) ∧ base ≤ g ∧ g ≠ mb
  all : ∀ y ∈ pre, ∃ v, (y.1, v) ∈ L
  fit : FitP pre
  inj : ∀ x ∈ L, ∀ y ∈ L, ∀ g c1 c2, x.2 = .slice (some ⟨g, 0, none⟩) k c1 → y.2 = .slice (some ⟨g, 0, none⟩) k c2 → x.1 = y.1
theorem TM.start {w : World} {base k : Nat} : TM (w.alloc (.map #[] 0)) w.heap.size base k [] [] := ⟨PM.made w, by simp, by simp, FitP.nil, by simp⟩
theorem TM.same {w w' : World} {mb base k : Nat} {pre : List Pr} {L : List (Option Nat × Value)} (h : TM w mb base k pre L) (M : Same w w') : TM w' mb base k pre L :=
  ⟨h.pm.mod M (fun q => q), fun x hx => let ⟨s, g, cap, a, b, c, d, e⟩ := h.row x hx; ⟨s, g, cap, a, b, c, d.mod M (fun q => q), e⟩, h.all, h.fit, h.inj⟩
section
variable {w : World} {mb base k : Nat} {pre : List Pr} {L : List (Option Nat × Value)}
/-- A look-up, with the word whether it is there. -/
theorem TM.look (h : TM w mb base k pre L) (F : Nat → Array Value) (hB : ∀ x, F x ≠ #[] → Blk w x (F x)) {q : Option Nat} (hq : ∀ c, q = some c → F c ≠ #[]) (hL : ∀ y ∈ pre, ∀ c, y.1 = some c → F c ≠ #[]) :
    (∃ s g cap, (q, s) ∈ pre ∧ s.length = k ∧ RowV w g k (txF s) ∧ (Instr.lookup 167 (.map (some mb)) (pk q) true).run Tryz.prog w = .ok (.tuple #[.slice (some ⟨g, 0, none⟩) k cap, .bool true]) w) ∨
    ((∀ y ∈ pre, y.1 ≠ q) ∧ (Instr.lookup 167 (.map (some mb)) (pk q) true).run Tryz.prog w = .ok (.tuple #[.slice none 0 0, .bool false]) w) := by
  obtain ⟨i, hi, hsz⟩ := info125
  have hl := h.pm.look (t := 167) Tryz.underlying167 Tryz.underlying123 hi hsz (z := .slice none 0 0) rfl F hB hq (fun x hx c hc => by
    obtain ⟨s, g, cap, a, _⟩ := h.row x hx
    exact hL _ a c hc) true
  by_cases hx : ∃ x ∈ L, x.1 = q
  · obtain ⟨x, hx, rfl⟩ := hx
    obtain ⟨s, g, cap, a, b, c, d, e⟩ := h.row x hx
    refine .inl ⟨s, g, cap, a, c, d, ?_⟩
    have := hl.1 x.2 hx
    rw [if_pos rfl, b] at this
    exact this
  · refine .inr ⟨fun y hy e => ?_, ?_⟩
    · obtain ⟨v, hv⟩ := h.all y hy
      exact hx ⟨_, hv, e⟩
    · have := hl.2 (fun x hx' e => hx ⟨x, hx', e⟩)
      rw [if_pos rfl] at this
      exact this
/-- A store. -/
theorem TM.put (h : TM w mb base k pre L) (F : Nat → Array Value) (hB : ∀ x, F x ≠ #[] → Blk w x (F x)) {q : Option Nat} (hq : ∀ c, q = some c → F c ≠ #[]) (hL : ∀ y ∈ pre, ∀ c, y.1 = some c → F c ≠ #[])
    {s : List (List UInt8)} {g cap : Nat} (hr : RowV w g k (txF s)) (hs : s.length = k) (hg : base ≤ g) (hne : g ≠ mb) (hf : FitP (pre ++ [(q, s)])) (hfr : ∀ x ∈ L, ∀ c', x.2 ≠ .slice (some ⟨g, 0, none⟩) k c') :
    ∃ w' L', (Instr.mapUpdate 167 (.map (some mb)) (pk q) (.slice (some ⟨g, 0, none⟩) k cap)).run Tryz.prog w = .ok () w' ∧ TM w' mb base k (pre ++ [(q, s)]) L' ∧ Mod (fun i => i = mb) w w' := by
  obtain ⟨i, hi, hsz⟩ := info125
  obtain ⟨w', L', h1, h2, h3, h4⟩ := h.pm.put (t := 167) Tryz.underlying167 Tryz.underlying123 hi hsz F hB hq (fun x hx c hc => by
    obtain ⟨s, g, cap, a, _⟩ := h.row x hx
    exact hL _ a c hc) (.slice (some ⟨g, 0, none⟩) k cap)
  refine ⟨w', L', h1, ⟨h2, fun x hx => ?_, fun y hy => ?_, hf, fun x hx y hy g' c1 c2 e1 e2 => ?_⟩, h4⟩
  · rcases (h3 x).1 hx with rfl | ⟨hx, hne2⟩
    · exact ⟨s, g, cap, by simp, rfl, hs, hr.mod h4 hne, hg, hne⟩
    · obtain ⟨s, g, cap, a, b, c, d, e1, e2⟩ := h.row x hx
      exact ⟨s, g, cap, by simp [a], b, c, d.mod h4 e2, e1, e2⟩
  · rcases List.mem_append.1 hy with hy | hy
    · by_cases e : y.1 = q
      · exact ⟨_, (h3 _).2 (.inl (by rw [e]))⟩
      · obtain ⟨v, hv⟩ := h.all y hy
        exact ⟨v, (h3 _).2 (.inr ⟨hv, e⟩)⟩
    · rw [List.mem_singleton.1 hy]
      exact ⟨_, (h3 _).2 (.inl rfl)⟩
  · rcases (h3 x).1 hx with rfl | ⟨hx, _⟩ <;> rcases (h3 y).1 hy with rfl | ⟨hy, _⟩
    · rfl
    · cases e1
      exact absurd e2 (hfr y hy c2)
    · cases e2
      exact absurd e1 (hfr x hx c1)
    · exact h.inj x hx y hy g' c1 c2 e1 e2
end
end Go.Proofs.YtlcepoagpocadaaGreatDoor
set_option maxRecDepth 100000
/- Of each chunk the sectors that are told (texts). -/
namespace Go.Proofs.YtlcepoagpocadaaGreatDoor
open Go Go.RowKit
def FitD (S : MS) (D : List (List UInt8)) : Prop :=
  D.length = S.vols.length ∧ (∀ x ∈ S.vols.zip D, x.2.length = x.1.size.toNat * S.k * 16) ∧ FitP (tellA S.k (S.vols.zip D))
theorem make167 (w : World) : (Instr.makeMap 167 none).run Tryz.prog w = .ok (.map (some w.heap.size)) (w.alloc (.map #[] 0)) := by kernel_rfl
theorem tellA_mem {k i p : Nat} {l : List (Vo × List UInt8)} {x : Vo × List UInt8} (h : l[i]? = some x) (hp : p < x.1.size.toNat) : (getL (p : Int) x.1.pl, toldL k x.2 p) ∈ tellA k l := by
  unfold tellA
  refine List.mem_flatMap.2 ⟨x, List.mem_of_getElem? h, ?_⟩
  unfold tellV
  exact List.mem_map.2 ⟨p, List.mem_range.2 hp, rfl⟩
theorem tellV_sub {k i p : Nat} {l : List (Vo × List UInt8)} {x : Vo × List UInt8} (h : l[i]? = some x) (hp : p ≤ x.1.size.toNat) : ∀ y ∈ tellA k (l.take i) ++ tellV k x.1 x.2 p, y ∈ tellA k l := by
  intro y hy
  rcases List.mem_append.1 hy with hy | hy
  · unfold tellA at hy ⊢
    obtain ⟨z, hz, h2⟩ := List.mem_flatMap.1 hy
    exact List.mem_flatMap.2 ⟨z, List.mem_of_mem_take hz, h2⟩
  · unfold tellV at hy
    obtain ⟨q, hq, rfl⟩ := List.mem_map.1 hy
    exact tellA_mem h (Nat.lt_of_lt_of_le (List.mem_range.1 hq) hp)
theorem tellA_live {k : Nat} {S : MS} {D : List (List UInt8)} {y : Pr} (hy : y ∈ tellA k (S.vols.zip D)) {c : Nat} (hc : y.1 = some c) : ∃ v ∈ S.vols, ∃ x ∈ v.pl, x.2 = c := by
  unfold tellA at hy
  obtain ⟨z, hz, h2⟩ := List.mem_flatMap.1 hy
  unfold tellV at h2
  obtain ⟨q, hq, rfl⟩ := List.mem_map.1 h2
  exact ⟨z.1, (List.of_mem_zip hz).1, _, getL_mem hc, rfl⟩
theorem FitP.add {pre : List Pr} {q : Option Nat} {s : List (List UInt8)} (h : FitP pre) (h0 : q = none → s.all (fun x => x == zero16) = true) (h1 : ∀ c, q = some c → ∀ s', (some c, s') ∈ pre → s' = s) : FitP (pre ++ [(q, s)]) := by
  constructor
  · intro s' hs
    rcases List.mem_append.1 hs with hs | hs
    · exact h.zero _ hs
    · cases List.mem_singleton.1 hs
      exact h0 rfl
  · intro c s1 s2 a b
    rcases List.mem_append.1 a with a1 | a1 <;> rcases List.mem_append.1 b with b1 | b1
    · exact h.one _ _ _ a1 b1
    · cases List.mem_singleton.1 b1
      exact h1 c rfl _ a1
    · cases List.mem_singleton.1 a1
      exact (h1 c rfl _ b1).symm
    · cases List.mem_singleton.1 a1
      cases List.mem_singleton.1 b1
      rfl
section
variable {K : Nat → Prop} {w : World} {m : Nat} {S : MS} {ow : Nat → Int} {v v' : Vo}
set_option maxHeartbeats 8000000 in
theorem texts_any (h : Mem Tryz.prog K w m S ow) (G : Good S) (W : Wf S) (vd : Value) (D : List (List UInt8)) (hD : TxS w vd D) (hDl : D.length ≤ 1000000) :
    Calls Tryz.prog 76 #[bp m, vd] w fun e w' => ((FitD S D ∧ ∃ L, e = .returned (.tuple #[.map (some w.heap.size), .bool true]) ∧ TM w' w.heap.size w.heap.size S.k (tellA S.k (S.vols.zip D)) L) ∨ (¬ FitD S D ∧ e = .returned (.tuple #[.map none, .bool false]))) ∧ Same w w' := by
  refine opq fun R HR => ?_
  have HM := Lib.hid h
  have HG := Lib.hid G
  have hl := vols_len G W
  obtain ⟨a1, c1, rfl, kD⟩ := hD.ex
  have KD := Lib.hid kD
  obtain ⟨nd, hnd⟩ : ∃ z, D.length = z := ⟨_, rfl⟩
  rw [hnd] at KD hDl ⊢
  have ND := Lib.hid hnd
  obtain ⟨mb, hmb⟩ : ∃ z, w.heap.size = z := ⟨_, rfl⟩
  have HMB := Lib.hid hmb
  obtain ⟨W1, hW1⟩ : ∃ z, w.alloc (.map #[] 0) = z := ⟨_, rfl⟩
  have J1 := Lib.hid (show Same w W1 by rw [← hW1]; exact (Mod.refl _ _).alloc _)
  have s1 : W1.heap.size = mb + 1 := by rw [← hW1, ← hmb]; simp
  have T1 := Lib.hid (show TM W1 mb mb S.k [] [] by rw [← hW1, ← hmb]; exact TM.start)
  have HSo := Lib.hid (sorted_any (h.same J1.out) W hl (fun v hv => I64.of (by have := G.ids v hv; omega)))
  obtain ⟨n, hn⟩ : ∃ n, S.vols.length = n := ⟨_, rfl⟩
  rw [hn] at hl HSo
  rw [hmb] at HR
  have HN := Lib.hid hn
  obtain ⟨k, hkk⟩ : ∃ k, S.k = k := ⟨_, rfl⟩
  have HKK := Lib.hid hkk
  have hk1 := G.k1
  have hk8 := G.k8
  rw [hkk] at hk1 hk8 T1
  have hmk := make167 w
  rw [hmb, hW1] at hmk
  clear h W hn G hkk hD kD hnd hW1 hmb
  go_enter Tryz.func76, Tryz.ntmps76
  go_wp2_with fail
  refine HSo.out.mono ?_
  rintro e w2 ⟨vi, rfl, hrow, M⟩
  have J2 := Lib.hid (J1.out.same M)
  have T2 := Lib.hid (T1.out.same M)
  have s2 : mb + 1 ≤ w2.heap.size := by have := M.size; omega
  have RI := Lib.hid hrow
  obtain ⟨ai, ci, rfl⟩ := owns_slice hrow
  clear M hrow HSo J1 T1 hmk
  by_cases hnn : nd = n
  case neg =>
    have hq : ((nd : Int) != (n : Int)) = true := by simp; omega
    go_wp2
    refine HR.out _ _ ⟨.inr ⟨fun f => hnn ?_, rfl⟩, J2.out⟩
    rw [← ND.out, ← HN.out]
    exact f.1
  subst hnn
  have hq : ((nd : Int) != (nd : Int)) = false := by simp
  go_wp2_with fail
  obtain ⟨Z, hZ⟩ : ∃ z, S.vols.zip D = z := ⟨_, rfl⟩
  have HZ := Lib.hid hZ
  have hZl : Z.length = nd := by rw [← hZ, List.length_zip, HN.out, ND.out]; simp
  have HZL := Lib.hid hZl
  have HF1 := Lib.hid (show (∀ x ∈ Z, x.2.length = x.1.size.toNat * k * 16) → FitP (tellA k Z) → FitD S D from fun a b => ⟨by rw [HN.out, ND.out], by rw [hZ, HKK.out]; exact a, by rw [hZ, HKK.out]; exact b⟩)
  have HF2 := Lib.hid (show FitD S D → (∀ x ∈ Z, x.2.length = x.1.size.toNat * k * 16) ∧ FitP (tellA k Z) from fun f => by
    have := f.2
    rw [hZ, HKK.out] at this
    exact this)
  have HLv := Lib.hid (show ∀ y ∈ tellA k Z, ∀ c, y.1 = some c → ∃ v ∈ S.vols, ∃ x ∈ v.pl, x.2 = c from fun y hy c hc => by rw [← hZ] at hy; exact tellA_live hy hc)
  have HR2 := Lib.hid (show ∀ (e : Ending) (w' : World), ((FitD S D ∧ ∃ L, e = .returned (.tuple #[.map (some mb), .bool true]) ∧ TM w' mb mb k (tellA k Z) L) ∨ (¬ FitD S D ∧ e = .returned (.tuple #[.map none, .bool false]))) ∧ Same w w' → R e w' from fun e w' => by
    have := HR.out e w'
    rw [hZ, HKK.out] at this
    exact this)
  clear HR hZl
  clear hZ
  go_loopw [25] (fun vi wr => ∃ (j : Nat) (L : List (Option Nat × Value)), j ≤ nd ∧ vi = .int .i64 (j : Int) ∧ TM wr mb mb k (tellA k (Z.take j)) L ∧ (∀ x ∈ Z.take j, x.2.length = x.1.size.toNat * k * 16) ∧ Mod (fun i => i = mb) w2 wr) (fun vi _ => nd - (intOf vi).toNat)
  case atStart => exact ⟨0, [], by omega, rfl, T2.out, by simp, Mod.refl _ _⟩
  case round =>
    obtain ⟨j, L, hj, rfl, hT, hLn, M⟩ := hrel
    have TX := Lib.hid hT
    have LN := Lib.hid hLn
    have MX := Lib.hid M
    have J := Lib.hid (show Same w wr from J2.out.then_ M (fun i hi e => by have := HMB.out; omega))
    have hwr : w2.heap.size ≤ wr.heap.size := M.size
    clear M hT hLn
    by_cases hlt : j < nd
    · obtain ⟨g, cap, hvv, hgb, hgc, hrw⟩ := RowV.of_owns RI.out (by omega)
      cases hvv
      obtain ⟨gd, hgd, hrd⟩ := KD.out (by omega)
      subst hgd
      obtain ⟨⟨x, t⟩, hx⟩ : ∃ x, Z[j]? = some x := ⟨_, List.getElem?_eq_getElem (by rw [HZL.out]; exact hlt)⟩
      have hxs : S.vols[j]? = some x ∧ D[j]? = some t := by
        have := hx
        rw [← HZ.out, List.getElem?_zip_eq_some] at this
        exact this
      have e0 := (MX.out.cell hrw.lt (fun q => by omega) j).trans (hrw.cell j (by omega))
      rw [show ((S.vols.map fun v => bp v.b)).getD j undef = bp x.b by
        rw [List.getD_eq_getElem?_getD, List.getElem?_map, hxs.1]; rfl] at e0
      have q1 := ((hrd.mod J.out (fun q => q)).cell j hlt).trans (show _ = some (Value.string ⟨t.toArray⟩) by unfold txF; rw [List.getD_eq_getElem?_getD, hxs.2]; rfl)
      have hxm := List.mem_of_getElem? hxs.1
      have hsz := HG.out.sizes x hxm
      obtain ⟨z, hzz⟩ : ∃ z : Nat, x.size = (z : Int) := ⟨x.size.toNat, by omega⟩
      have hzk : z * k ≤ 64 * 8 := Nat.mul_le_mul (by omega) hk8
      have hzz2 : x.size.toNat = z := by omega
      have hz64 : z ≤ 64 := by omega
      obtain ⟨N, hN⟩ : ∃ N, z * k = N := ⟨_, rfl⟩
      have hN512 : N ≤ 512 := by rw [← hN]; exact hzk
      have hwm : IntKind.i64.wrap ((z : Int) * (k : Int)) = (N : Int) := by
        rw [show (z : Int) * (k : Int) = ((z * k : Nat) : Int) by simp, hN]; exact IntWalk.i64_in _ (by omega)
      have hwm2 : IntKind.i64.wrap ((N : Int) * 16) = ((N * 16 : Nat) : Int) := by rw [IntWalk.i64_in _ (by omega)]; simp
      obtain ⟨vm, hbm, -, hv⟩ := (HM.out.same J.out).parts
      have hb := (hv x hxm).1
      have HPm := Lib.hid (hv x hxm).2
      have b1 := hb.at_ (i := 1) (.int .i64 x.size) rfl
      have b5 := hb.at_ (i := 5) (.map (some x.pb)) rfl
      have k0 := hbm.at_ (i := 0) (.int .i64 (S.k : Int)) rfl
      rw [hzz] at b1
      rw [HKK.out] at k0
      have HX := Lib.hid hx
      have HXM := Lib.hid hxm
      obtain ⟨xb, hxb⟩ : ∃ z, x.b = z := ⟨_, rfl⟩
      have HXB := Lib.hid hxb
      have HBX := Lib.hid hb
      have HBM := Lib.hid hbm
      rw [hxb] at b1 b5 e0 HBX
      have hi0 : (0 : Int) ≤ (j : Int) := by omega
      have hi1 : (j : Int) < (nd : Int) := by omega
      have HNN := Lib.hid hN
      have HZ2 := Lib.hid hzz2
      have HZZ := Lib.hid hzz
      clear hrw hv hb hbm hzz hzk hsz hxb hx hxs hrd hxm hN hzz2
      by_cases htl : t.length = N * 16
      case neg =>
        have hne : ((t.length : Int) != ((N * 16 : Nat) : Int)) = true := by simp; omega
        go_wp2_with fail
        go_big_quiet (fail)
        go_wp2
        refine HR2.out _ _ ⟨.inr ⟨fun f => htl ?_, rfl⟩, J.out.drewN _⟩
        have := (HF2.out f).1 _ (List.mem_of_getElem? HX.out)
        rw [HZ2.out, HNN.out] at this
        exact this
      have hne : ((t.length : Int) != ((N * 16 : Nat) : Int)) = false := by simp; omega
      have HTL := Lib.hid htl
      clear htl
      go_wp2_with fail
      go_big_quiet (fail)
      go_wp2_with fail
      rw [show ((t.length : Int) != (N : Int) * 16) = false by rw [HTL.out]; simp]
      obtain ⟨W4, hW4⟩ : ∃ z, wr.drewN nq = z := ⟨_, rfl⟩
      have MX4 := Lib.hid (show Mod (fun i => i = mb) w2 W4 by rw [← hW4]; exact MX.out.drewN _)
      have TX4 := Lib.hid (show TM W4 mb mb k (tellA k (Z.take j) ++ tellV k x t 0) L by rw [← hW4]; have := TX.out.same ((Mod.refl (fun _ => False) _).drewN nq); simpa [tellV] using this)
      rw [hW4]
      clear hW4 q1 e0 b1 b5 k0 TX MX J HPm HBX HBM
      go_loopw [52] (fun vi ws => ∃ (p : Nat) (L : List (Option Nat × Value)), p ≤ z ∧ vi = .int .i64 (p : Int) ∧ TM ws mb mb k (tellA k (Z.take j) ++ tellV k x t p) L ∧ Mod (fun i => i = mb) w2 ws) (fun vi _ => z - (intOf vi).toNat)
      case atStart => exact ⟨0, L, by omega, rfl, TX4.out, MX4.out⟩
      case round =>
        clear TX4 MX4
        obtain ⟨p, L, hp, rfl, hT, M⟩ := hrel
        have TX := Lib.hid hT
        have MX := Lib.hid M
        have J := Lib.hid (show Same w wr from J2.out.then_ M (fun i hi e => by have := HMB.out; omega))
        have hwr : w2.heap.size ≤ wr.heap.size := M.size
        clear M hT
        by_cases hli : p < z
        · obtain ⟨gd2, hgd, hrd⟩ := KD.out (by omega)
          cases hgd
          have hxs : S.vols[j]? = some x ∧ D[j]? = some t := by
            have := HX.out
            rw [← HZ.out, List.getElem?_zip_eq_some] at this
            exact this
          have q1 := ((hrd.mod J.out (fun q => q)).cell j hlt).trans (show _ = some (Value.string ⟨t.toArray⟩) by unfold txF; rw [List.getD_eq_getElem?_getD, hxs.2]; rfl)
          obtain ⟨vm, hbm, -, hv⟩ := (HM.out.same J.out).parts
          have hb := (hv x HXM.out).1
          have HPm := Lib.hid (hv x HXM.out).2
          have b5 := hb.at_ (i := 5) (.map (some x.pb)) rfl
          rw [HXB.out] at b5
          rw [HKK.out] at hbm
          have hxbl := hb.lt
          rw [HXB.out] at hxbl
          have hgdl := hrd.lt
          have hlk := look106 HPm.out (p := (p : Int)) (I64.of (by omega))
          have hpk : (p + 1) * k * 16 ≤ t.length := by
            rw [HTL.out, ← HNN.out]
            exact Nat.mul_le_mul_right _ (Nat.mul_le_mul_right _ (by omega))
          have ht1 : t.length ≤ 1000000 := by rw [HTL.out]; omega
          have HTo := Lib.hid (show ∀ W, Same wr W → Calls Tryz.prog 100 #[bp m, .string ⟨t.toArray⟩, .int .i64 (p : Int)] W fun e w' => ∃ g cap, e = .returned (.slice (some ⟨g, 0, none⟩) k cap) ∧ RowV w' g k (txF (toldL k t p)) ∧ W.heap.size ≤ g ∧ Same W w' from
            fun W M => told_any W m vm k p t (hbm.mod M (fun q => q)) hk1 hk8 (by omega) hpk ht1)
          obtain ⟨q, hqq⟩ : ∃ q, getL (p : Int) x.pl = q := ⟨_, rfl⟩
          have HQ := Lib.hid hqq
          obtain ⟨vq, hvq⟩ : ∃ z, ptrO q = z := ⟨_, rfl⟩
          have HVQ := Lib.hid hvq
          rw [hqq, hvq] at hlk
          have HKc := Lib.hid (show ∀ W, Same wr W → (W.cell? ⟨gd, j, none⟩ = some (.string ⟨t.toArray⟩) ∧ W.cell? ⟨xb, 5, none⟩ = some (.map (some x.pb)) ∧ (Instr.lookup 106 (.map (some x.pb)) (.int .i64 (p : Int)) false).run Tryz.prog W = .ok vq W) from fun W M =>
            ⟨(M.cell (Nat.lt_of_lt_of_le hgdl J.out.size) (fun q => q) j).trans q1, (M.cell hxbl (fun q => q) 5).trans b5, by
              have := look106 (HPm.out.mod M (fun q => q)) (p := (p : Int)) (I64.of (by omega))
              rw [HQ.out, HVQ.out] at this
              exact this⟩)
          have hSc := HKc.out wr (Mod.refl _ _)
          have hi0 : (0 : Int) ≤ (j : Int) := by omega
          have hi1 : (j : Int) < (nd : Int) := by omega
          clear hrd hxs hbm hv hb hqq hvq q1 b5 hlk
          go_wp2_with fail
          go_region_held3 (fun W => W.cell? ⟨gd, j, none⟩ = some (.string ⟨t.toArray⟩) ∧ W.cell? ⟨xb, 5, none⟩ = some (.map (some x.pb)) ∧ (Instr.lookup 106 (.map (some x.pb)) (.int .i64 (p : Int)) false).run Tryz.prog W = .ok vq W) (first | exact hSc | assumption | exact HKc.out _ ((Mod.refl _ _).drew) | exact HKc.out _ JA.out) ((
              first
              | (go_at_call 100; refine (HTo.out _ ((Mod.refl _ _).drew)).mono ?_; rintro e w5 ⟨g5, c5, rfl, hrow5, hge5, MA⟩;
                 have JA := Lib.hid (show Same wr w5 from ((Mod.refl _ wr).drew).same MA);
                 have HR5 := Lib.hid hrow5;
                 have HG5 := Lib.hid (show wr.heap.size ≤ g5 from hge5);
                 clear MA hrow5 hge5)))
          all_goals
            have TX5 := Lib.hid (TX.out.same JA.out)
            have MX5 := Lib.hid (MX.out.same JA.out)
            have J5 := Lib.hid (J.out.same JA.out)
            obtain ⟨T, hT⟩ : ∃ z, toldL k t p = z := ⟨_, rfl⟩
            have HTT := Lib.hid hT
            have hTl : T.length = k := by rw [← hT]; exact toldL_len k t p
            rw [hT] at HR5
            obtain ⟨pre, hpre⟩ : ∃ z, tellA k (Z.take j) ++ tellV k x t p = z := ⟨_, rfl⟩
            have HPs := Lib.hid (show tellA k (Z.take j) ++ tellV k x t (p + 1) = pre ++ [(q, T)] by
              rw [tellV_succ, ← List.append_assoc, hpre, HQ.out, hT])
            rw [hpre] at TX5
            have HSub := Lib.hid (show ∀ y ∈ pre, y ∈ tellA k Z by
              rw [← hpre]
              exact tellV_sub HX.out (by rw [HZ2.out]; omega))
            have HIn := Lib.hid (show (q, T) ∈ tellA k Z by
              have := tellA_mem (k := k) (p := p) HX.out (by rw [HZ2.out]; omega)
              rw [HQ.out, hT] at this
              exact this)
            have HTx := Lib.hid (show ∀ W, Same w5 W → TxS W (.slice (some ⟨g5, 0, none⟩) k c5) T from fun W M => ⟨⟨_, c5, by rw [hTl], fun _ => ⟨g5, rfl, by rw [hTl]; exact HR5.out.mod M (fun q => q)⟩⟩⟩)
            have HFk := Lib.hid (show ∀ W, Same w5 W → ∃ F : Nat → Array Value, (∀ x, F x ≠ #[] → Blk W x (F x)) ∧ (∀ c, q = some c → F c ≠ #[]) ∧ (∀ y ∈ pre, ∀ c, y.1 = some c → F c ≠ #[]) from fun W M => by
              obtain ⟨F, f1, f2⟩ := (HM.out.same (J5.out.same M)).blks
              refine ⟨F, f1, fun c hc => ?_, fun y hy c hc => ?_⟩
              · exact f2 x HXM.out _ (getL_mem (HQ.out.trans hc))
              · obtain ⟨v, hv, e, he, rfl⟩ := HLv.out y (HSub.out y hy) c hc
                exact f2 v hv e he)
            have hpk : pk q = vq := by rw [← HVQ.out]; cases q <;> rfl
            have HFr := Lib.hid (show ∀ x ∈ L, ∀ c', x.2 ≠ .slice (some ⟨g5, 0, none⟩) k c' from fun x hx c' e => by
              obtain ⟨s, g', cap', _, e2, _, hr, _⟩ := TX.out.row x hx
              rw [e2] at e
              cases e
              have := hr.lt
              have := HG5.out
              omega)
            have HPut := Lib.hid (show ∀ W, Same w5 W → FitP (pre ++ [(q, T)]) → ∃ w' L', (Instr.mapUpdate 167 (.map (some mb)) vq (.slice (some ⟨g5, 0, none⟩) k c5)).run Tryz.prog W = .ok () w' ∧ TM w' mb mb k (pre ++ [(q, T)]) L' ∧ Mod (fun i => i = mb) W w' from fun W M hf => by
              obtain ⟨F, f1, f2, f3⟩ := HFk.out W M
              rw [← hpk]
              exact (TX5.out.same M).put F f1 f2 f3 (HR5.out.mod M (fun q => q)) hTl (by have := HG5.out; omega) (by have := HG5.out; omega) hf HFr.out)
            have hLK : (∃ s g cap, (q, s) ∈ pre ∧ s.length = k ∧ RowV w5 g k (txF s) ∧ (Instr.lookup 167 (.map (some mb)) vq true).run Tryz.prog w5 = .ok (.tuple #[.slice (some ⟨g, 0, none⟩) k cap, .bool true]) w5) ∨
                ((∀ y ∈ pre, y.1 ≠ q) ∧ (Instr.lookup 167 (.map (some mb)) vq true).run Tryz.prog w5 = .ok (.tuple #[.slice none 0 0, .bool false]) w5) := by
              obtain ⟨F, f1, f2, f3⟩ := HFk.out w5 (Mod.refl _ _)
              rw [← hpk]
              exact TX5.out.look F f1 f2 f3
            have HK18 : k ≤ 1000000 := by omega
            have HTL2 := Lib.hid hTl
            clear hT hpre hpk hTl TX HR5 HFk HFr
            cases q with
            | none =>
              obtain rfl : Value.pointer none = vq := HVQ.out
              rcases hLK with ⟨s0, g0, cap0, -, -, -, hlk⟩ | ⟨-, hlk⟩
              all_goals
                go_wp2_with fail
                refine (isZero_any _ _ T (HTx.out _ (Mod.refl _ _)) (by rw [HTL2.out]; exact HK18)).mono ?_
                rintro e w6 ⟨rfl, hM⟩
                have J6 := Lib.hid (J5.out.same hM)
                have MX6 := Lib.hid (MX5.out.same hM)
                have M56 := Lib.hid hM
                clear hM
                cases hz : T.all (fun x => x == zero16) with
                | false =>
                  go_wp2
                  refine HR2.out _ _ ⟨.inr ⟨fun f => ?_, rfl⟩, J6.out⟩
                  have := (HF2.out f).2.zero _ HIn.out
                  rw [hz] at this
                  cases this
                | true =>
                  have HZ8 := Lib.hid hz
                  clear hz
                  obtain ⟨w7, L7, hrun7, hT7, M7⟩ := HPut.out w6 M56.out (TX5.out.fit.add (fun _ => HZ8.out) (fun c hc => by cases hc))
                  have T7 := Lib.hid hT7
                  have MX7 := Lib.hid (MX6.out.trans M7)
                  rw [← HPs.out] at T7
                  clear hT7 M7
                  go_wp2_with fail
                  go_roundw
                  case rel =>
                    exact ⟨p + 1, L7, by omega, by go_num, T7.out, MX7.out⟩
                  case measure => simp [intOf]; omega
            | some d =>
              obtain rfl : Value.pointer (some ⟨d, 0, none⟩) = vq := HVQ.out
              rcases hLK with ⟨s0, g0, cap0, hin, hsl, hrow0, hlk⟩ | ⟨hnot, hlk⟩
              · have HIN := Lib.hid hin
                have HSL := Lib.hid hsl
                have HR0 := Lib.hid hrow0
                clear hin hsl hrow0
                go_wp2_with fail
                refine (eqTx_any _ _ _ s0 T ⟨⟨_, cap0, by rw [HSL.out], fun _ => ⟨g0, rfl, by rw [HSL.out]; exact HR0.out⟩⟩⟩ (HTx.out _ (Mod.refl _ _)) (by rw [HSL.out]; exact HK18) (by rw [HTL2.out]; exact HK18)).mono ?_
                rintro e w6 ⟨rfl, hM⟩
                have J6 := Lib.hid (J5.out.same hM)
                have MX6 := Lib.hid (MX5.out.same hM)
                have M56 := Lib.hid hM
                clear hM
                by_cases hst : s0 = T
                · have hd : decide (s0 = T) = true := decide_eq_true hst
                  rw [hd]
                  have HST := Lib.hid hst
                  clear hst
                  obtain ⟨w7, L7, hrun7, hT7, M7⟩ := HPut.out w6 M56.out (TX5.out.fit.add (fun e => by cases e) (fun c hc s' hs' => by cases hc; rw [← HST.out]; exact TX5.out.fit.one _ _ _ hs' HIN.out))
                  have T7 := Lib.hid hT7
                  have MX7 := Lib.hid (MX6.out.trans M7)
                  rw [← HPs.out] at T7
                  clear hT7 M7
                  go_wp2_with fail
                  go_roundw
                  case rel =>
                    exact ⟨p + 1, L7, by omega, by go_num, T7.out, MX7.out⟩
                  case measure => simp [intOf]; omega
                · have hd : decide (s0 = T) = false := decide_eq_false hst
                  rw [hd]
                  go_wp2
                  refine HR2.out _ _ ⟨.inr ⟨fun f => hst ?_, rfl⟩, J6.out⟩
                  exact (HF2.out f).2.one _ _ _ (HSub.out _ HIN.out) HIn.out
              · have HNOT := Lib.hid hnot
                clear hnot
                obtain ⟨w7, L7, hrun7, hT7, M7⟩ := HPut.out w5 (Mod.refl _ _) (TX5.out.fit.add (fun e => by cases e) (fun c hc s' hs' => absurd hc.symm (HNOT.out _ hs')))
                have T7 := Lib.hid hT7
                have MX7 := Lib.hid (MX5.out.trans M7)
                rw [← HPs.out] at T7
                clear hT7 M7
                go_wp2_with fail
                go_roundw
                case rel =>
                  exact ⟨p + 1, L7, by omega, by go_num, T7.out, MX7.out⟩
                case measure => simp [intOf]; omega
        · obtain rfl : p = z := by omega
          have hpre : tellA k (Z.take (j + 1)) = tellA k (Z.take j) ++ tellV k x t p := by
            rw [tellA_take HX.out, HZ2.out]
          rw [← hpre] at TX
          have hj1 : IntKind.i64.wrap ((j : Int) + 1) = ((j + 1 : Nat) : Int) := by rw [IntWalk.i64_in _ (by omega)]; rfl
          go_wp2_with fail
          refine ⟨⟨j + 1, L, by omega, by go_num, TX.out, fun y hy => ?_, MX.out⟩, by simp [intOf]; omega⟩
          obtain ⟨h1, h2⟩ := List.getElem?_eq_some_iff.1 HX.out
          rw [List.take_succ_eq_append_getElem h1, h2] at hy
          rcases List.mem_append.1 hy with hy | hy
          · exact LN.out y hy
          · rw [List.mem_singleton.1 hy, HZ2.out]
            show t.length = _
            rw [HTL.out, HNN.out]
    · obtain rfl : nd = j := by omega
      have hZt : Z.take nd = Z := List.take_of_length_le (by rw [HZL.out]; exact Nat.le_refl _)
      rw [hZt] at TX LN
      go_wp2
      exact HR2.out _ _ ⟨.inl ⟨HF1.out LN.out TX.out.fit, L, rfl, TX.out⟩, J.out⟩
end
end Go.Proofs.YtlcepoagpocadaaGreatDoor
set_option maxRecDepth 100000
/- A chunk gets a row of its own; Restore. -/
namespace Go.Proofs.YtlcepoagpocadaaGreatDoor
open Go Go.RowKit
section
variable {H : Nat → Ob} {m vm : Nat} {S : MS} {ow : Nat → Int}
/-- A chunk's row is another one. -/
theorem Abs.resect (A : Abs H m vm S ow) {c g g2 cap cap2 : Nat} {xs : List (List UInt8)} (h1 : H c = .cl 2 #[.slice (some ⟨g, 0, none⟩) S.k cap, .int .i64 (ow c)]) (hn : H g2 = .no) :
    Abs (upd (upd H c (.cl 2 #[.slice (some ⟨g2, 0, none⟩) S.k cap2, .int .i64 (ow c)])) g2 (.rw c xs)) m vm { S with sec := upd S.sec c xs } ow := by
  have far : ∀ i, H i ≠ H c → H i ≠ .no → upd (upd H c (.cl 2 #[.slice (some ⟨g2, 0, none⟩) S.k cap2, .int .i64 (ow c)])) g2 (.rw c xs) i = H i := fun i q r => by
    rw [upd_ne _ _ (fun e => r (by rw [e]; exact hn)), upd_ne _ _ (ne_H q)]
  have hcg : c ≠ g2 := ne_H (H := H) (by rw [h1, hn]; simp)
  refine ⟨?_, ?_, ?_, ?_, ?_, A.nd⟩
  · rw [far m (by rw [A.hm, h1]; simp) (by rw [A.hm]; simp)]; exact A.hm
  · rw [far vm (by rw [A.hv, h1]; simp) (by rw [A.hv]; simp)]; exact A.hv
  · intro u hu; rw [far u.b (by rw [A.hb u hu, h1]; simp) (by rw [A.hb u hu]; simp)]; exact A.hb u hu
  · intro u hu; rw [far u.pb (by rw [A.hp u hu, h1]; simp) (by rw [A.hp u hu]; simp)]; exact A.hp u hu
  · intro u hu x hx
    obtain ⟨g', cap', q1, q2⟩ := A.hc u hu x hx
    by_cases qc : x.2 = c
    · refine ⟨g2, cap2, ?_, ?_⟩
      · rw [qc, upd_ne _ _ hcg, upd_same]
      · rw [upd_same, qc]
        show _ = Ob.rw c (upd S.sec c xs c)
        rw [upd_same]
    · refine ⟨g', cap', ?_, ?_⟩
      · rw [upd_ne _ _ (ne_H (H := H) (by rw [q1, hn]; simp)), upd_ne _ _ qc]; exact q1
      · rw [far g' (by rw [q2, h1]; simp) (by rw [q2]; simp), q2]
        show _ = Ob.rw x.2 (upd S.sec c xs x.2)
        rw [upd_ne _ _ qc]
end
section
variable {K : Nat → Prop} {w : World} {m : Nat} {S : MS} {v : Vo}
/-- 'c.sectors = s'. -/
theorem Md.resect (h : Md Tryz.prog K w m S) {v : Vo} (hv : v ∈ S.vols) {x : Int × Nat} (hx : x ∈ v.pl) {g2 cap2 : Nat} {xs : List (List UInt8)} (hr : RowV w g2 S.k (txF xs)) (hl : xs.length = S.k) (hK : K g2) :
    Md Tryz.prog (fun i => K i ∧ i ≠ g2) (w.setCell ⟨x.2, 0, none⟩ (.slice (some ⟨g2, 0, none⟩) S.k cap2)) m { S with sec := upd S.sec x.2 xs } ∧ Mod (fun i => ¬ K i) w (w.setCell ⟨x.2, 0, none⟩ (.slice (some ⟨g2, 0, none⟩) S.k cap2)) := by
  obtain ⟨ow, ⟨H, vm, hH, hKn, hlt, A⟩, hcn⟩ := h
  obtain ⟨g, cap, h1, h2⟩ := A.hc v hv x hx
  have hn : H g2 = .no := by
    by_cases q : H g2 = .no
    · exact q
    · exact absurd hK (hKn g2 q)
  have hKc : ¬ K x.2 := hKn x.2 (by rw [h1]; simp)
  have hcg : x.2 ≠ g2 := fun e => hKc (by rw [e]; exact hK)
  have hb : Blk w x.2 #[.slice (some ⟨g, 0, none⟩) S.k cap, .int .i64 (ow x.2)] := by have := hH x.2; rw [h1] at this; exact this
  have M1 : Mod (fun j => j = x.2) w (w.setCell ⟨x.2, 0, none⟩ (.slice (some ⟨g2, 0, none⟩) S.k cap2)) := (Mod.refl (fun j => j = x.2) w).setCell (p := ⟨x.2, 0, none⟩) (fun _ => rfl) _
  have hb' := hb.set 0 (.slice (some ⟨g2, 0, none⟩) S.k cap2)
  have hr' := hr.mod M1 (fun e => hcg e.symm)
  refine ⟨⟨ow, ⟨_, vm, fun b => ?_, fun b hb2 => ?_, fun i hi => Nat.lt_of_lt_of_le (hlt i hi.1) M1.size, A.resect (cap2 := cap2) (xs := xs) h1 hn⟩, hcn⟩, M1.mono (fun i _ e => by rw [e]; exact hKc)⟩
  · by_cases q : b = g2
    · subst q
      rw [upd_same]
      show RowV _ _ xs.length _
      rw [hl]
      exact hr'
    · rw [upd_ne _ _ q]
      exact hH.turn M1 (o := .cl 2 #[.slice (some ⟨g2, 0, none⟩) S.k cap2, .int .i64 (ow x.2)]) hb' b
  · intro hk
    obtain ⟨hk, hne⟩ := hk
    rw [upd_ne _ _ hne] at hb2
    by_cases q : b = x.2
    · exact hKc (q ▸ hk)
    · rw [upd_ne _ _ q] at hb2
      exact hKn b hb2 hk
end
end Go.Proofs.YtlcepoagpocadaaGreatDoor
set_option maxRecDepth 100000
/- Restore. -/
namespace Go.Proofs.YtlcepoagpocadaaGreatDoor
open Go Go.RowKit
theorem PR.left_eq {w : World} {b r : Nat} {L left : List (Option Nat × Value)} (h : PR w b r L left) : w.rangeLeft b r = left.length := by
  obtain ⟨es, cl, seen, h1, h2, h3, h4, h5, h6, h7⟩ := h
  unfold World.rangeLeft
  rw [h1, h2]
  have := congrArg List.length h7
  simpa using this
structure RL (K : Nat → Prop) (m mb r : Nat) (S : MS) (A : List Pr) (L : List (Option Nat × Value)) (w : World) (left : List (Option Nat × Value)) (Kt : Nat → Prop) (sec : Nat → List (List UInt8)) : Prop where
  pr : PR w mb r L left
  md : Md Tryz.prog Kt w m { S with sec := sec }
  sub : ∀ i, K i → Kt i
  kb : Kt mb
  kr : Kt r
  row : ∀ x ∈ left, ∃ s g cap, (x.1, s) ∈ A ∧ x.2 = .slice (some ⟨g, 0, none⟩) S.k cap ∧ s.length = S.k ∧ RowV w g S.k (txF s) ∧ Kt g ∧ g ≠ mb ∧ g ≠ r ∧ ¬ K g
  inj : ∀ x ∈ left, ∀ y ∈ left, ∀ g c1 c2, x.2 = .slice (some ⟨g, 0, none⟩) S.k c1 → y.2 = .slice (some ⟨g, 0, none⟩) S.k c2 → x.1 = y.1
  done : ∀ v ∈ S.vols, ∀ y ∈ v.pl, (some y.2, sec y.2) ∈ A ∨ ∃ x ∈ left, x.1 = some y.2
section
variable {K : Nat → Prop} {m mb r : Nat} {S : MS} {A : List Pr} {L left left' : List (Option Nat × Value)} {w w' : World} {Kt : Nat → Prop} {sec : Nat → List (List UInt8)} {x : Option Nat × Value}
/-- 'next'. -/
theorem RL.skip (h : RL K m mb r S A L w left Kt sec) (hn : x.1 = none) (hp : PR w' mb r L left') (hl : ∀ y, y ∈ left' ↔ y ∈ left ∧ y.1 ≠ x.1) (M : Mod (fun i => i = r) w w') : RL K m mb r S A L w' left' Kt sec := by
  refine ⟨hp, h.md.mod M (fun b _ e => by rw [e]; exact h.kr), h.sub, h.kb, h.kr, fun y hy => ?_, fun y hy z hz => h.inj y ((hl y).1 hy).1 z ((hl z).1 hz).1, fun v hv y hy => ?_⟩
  · obtain ⟨s, g, cap, a, b, c, d, e, f, f2, f3⟩ := h.row y ((hl y).1 hy).1
    exact ⟨s, g, cap, a, b, c, d.mod M f2, e, f, f2, f3⟩
  · rcases h.done v hv y hy with q | ⟨z, hz, e⟩
    · exact .inl q
    · exact .inr ⟨z, (hl z).2 ⟨hz, by rw [e, hn]; simp⟩, e⟩
/-- 'next' and the store. -/
theorem RL.put (h : RL K m mb r S A L w left Kt sec) {c : Nat} (hx : x ∈ left) (hn : x.1 = some c) (hp : PR w' mb r L left') (hl : ∀ y, y ∈ left' ↔ y ∈ left ∧ y.1 ≠ x.1) (M : Mod (fun i => i = r) w w') (hlive : ∃ v ∈ S.vols, ∃ y ∈ v.pl, y.2 = c) (hlt : ∀ i, K i → i < w.heap.size) :
    ∃ g cap u0 u1, x.2 = .slice (some ⟨g, 0, none⟩) S.k cap ∧ Blk w' c #[u0, u1] ∧ Mod (fun i => ¬ K i) w' (w'.setCell ⟨c, 0, none⟩ x.2) ∧ ∃ Kt' sec', RL K m mb r S A L (w'.setCell ⟨c, 0, none⟩ x.2) left' Kt' sec' := by
  obtain ⟨s, g, cap, a, b, e1, e2, e3, e4, e5, e6⟩ := h.row x hx
  have hmd := h.md.mod M (fun b _ e => by rw [e]; exact h.kr)
  obtain ⟨v, hv, y, hy, rfl⟩ := hlive
  obtain ⟨hm2, M2⟩ := hmd.resect (S := { S with sec := sec }) hv hy (g2 := g) (cap2 := cap) (xs := s) (e2.mod M e5) e1 e3
  obtain ⟨ow, hme, _⟩ := hmd
  obtain ⟨g0, cap0, hb, _⟩ := hme.ch hv hy
  refine ⟨g, cap, _, _, b, hb, ?_, fun i => Kt i ∧ i ≠ g, upd sec y.2 s, ?_⟩
  · rw [b]
    exact M2.mono (fun i _ q hk => q (h.sub i hk))
  · rw [b]
    refine ⟨hp.mod M2 (fun q => q h.kb) (fun q => q h.kr), hm2, fun i hi => ⟨h.sub i hi, fun e => e6 (e ▸ hi)⟩, ⟨h.kb, fun e => e4 e.symm⟩, ⟨h.kr, fun e => e5 e.symm⟩, fun z hz => ?_, fun y hy z hz => h.inj y ((hl y).1 hy).1 z ((hl z).1 hz).1, fun v2 hv2 y2 hy2 => ?_⟩
    · obtain ⟨s2, g2, cap2, a2, b2, f1, f2, f3, f4, f5, f6⟩ := h.row z ((hl z).1 hz).1
      refine ⟨s2, g2, cap2, a2, b2, f1, (f2.mod M f5).mod M2 (fun q => q f3), ⟨f3, fun e => ?_⟩, f4, f5, f6⟩
      subst e
      exact ((hl z).1 hz).2 (h.inj z ((hl z).1 hz).1 x hx _ _ _ b2 b)
    · by_cases q : y2.2 = y.2
      · left
        rw [q, upd_same, ← hn]
        exact a
      · rcases h.done v2 hv2 y2 hy2 with q2 | ⟨z, hz, e⟩
        · left
          rw [upd_ne _ _ q]
          exact q2
        · right
          refine ⟨z, (hl z).2 ⟨hz, ?_⟩, e⟩
          rw [e, hn]
          intro q3
          injection q3 with q3
          exact q q3
end
end Go.Proofs.YtlcepoagpocadaaGreatDoor
set_option maxRecDepth 100000
/- Restore (f33). -/
namespace Go.Proofs.YtlcepoagpocadaaGreatDoor
open Go Go.RowKit
theorem tellA_all {S : MS} (W : Wf S) (G : Good S) {D : List (List UInt8)} (hl : D.length = S.vols.length) : ∀ v ∈ S.vols, ∀ y ∈ v.pl, ∃ s, (some y.2, s) ∈ tellA S.k (S.vols.zip D) := by
  intro v hv y hy
  obtain ⟨i, hi⟩ := List.mem_iff_getElem?.1 hv
  obtain ⟨h1, h2⟩ := List.getElem?_eq_some_iff.1 hi
  have hz : (S.vols.zip D)[i]? = some (v, D[i]'(by omega)) := by
    rw [List.getElem?_zip_eq_some]
    exact ⟨hi, List.getElem?_eq_getElem (by omega)⟩
  have hk := G.keys v hv y hy
  have := tellA_mem (k := S.k) (p := y.1.toNat) hz (by show _ < v.size.toNat; omega)
  dsimp only at this
  rw [show ((y.1.toNat : Nat) : Int) = y.1 by omega, (G.rise v hv).get hy] at this
  exact ⟨_, this⟩
section
variable {K : Nat → Prop} {w : World} {m : Nat} {S : MS} {v v' : Vo}
set_option maxHeartbeats 8000000 in
theorem restore_any (h : Md Tryz.prog K w m S) (G : Good S) (W : Wf S) (vd : Value) (D : List (List UInt8)) (hD : TxS w vd D) (hDl : D.length ≤ 1000000) :
    Calls Tryz.prog 33 #[bp m, vd] w fun e w' => Mod (fun i => ¬ K i) w w' ∧ ((FitD S D ∧ e = .returned (.bool true) ∧ ∃ sec, (∀ v ∈ S.vols, ∀ y ∈ v.pl, (some y.2, sec y.2) ∈ tellA S.k (S.vols.zip D)) ∧ Md Tryz.prog K w' m { S with sec := sec }) ∨ (¬ FitD S D ∧ e = .returned (.bool false) ∧ Md Tryz.prog K w' m S)) := by
  refine opq fun R HR => ?_
  have HM := Lib.hid h
  have HG := Lib.hid G
  have HW := Lib.hid W
  have HLt := Lib.hid h.lt
  have HTe := Lib.hid (show Calls Tryz.prog 76 #[bp m, vd] w _ from by obtain ⟨ow, hm, _⟩ := h; exact texts_any hm G W vd D hD hDl)
  obtain ⟨mb, hmb⟩ : ∃ z, w.heap.size = z := ⟨_, rfl⟩
  have HMB := Lib.hid hmb
  rw [hmb] at HTe
  clear h G W hD hmb
  go_enter Tryz.func33, Tryz.ntmps33
  go_wp2_with fail
  refine HTe.out.mono ?_
  rintro e w1 ⟨hcase, hM⟩
  have J1 := Lib.hid hM
  clear hM HTe
  rcases hcase with ⟨hF, L, rfl, hT⟩ | ⟨hF, rfl⟩
  · have HF := Lib.hid hF
    have T1 := Lib.hid hT
    clear hF hT
    obtain ⟨A, hA⟩ : ∃ z, tellA S.k (S.vols.zip D) = z := ⟨_, rfl⟩
    rw [hA] at HR T1
    have HA := Lib.hid hA
    clear hA
    go_wp2_with (first | (at_range; refine wpList_range_pm (t := 167) rfl (.tmp 17) rfl Tryz.underlying167 rfl T1.out.pm ?_; intro w2 hpr hM2 hs2) | fail)
    go_frame
    obtain ⟨r, hr⟩ : ∃ z, w1.heap.size = z := ⟨_, rfl⟩
    rw [hr] at hpr ⊢
    have J2 := Lib.hid (J1.out.same hM2)
    have hmr : mb < r := by rw [← hr]; exact T1.out.pm.lt
    have hrw2 : r < w2.heap.size := by omega
    have HRL := Lib.hid (show RL K m mb r S A L w2 L (fun i => K i ∨ (w.heap.size ≤ i ∧ i < w2.heap.size)) S.sec from
      ⟨hpr, HM.out.more J2.out, fun i hi => .inl hi, .inr ⟨by have := HMB.out; omega, by omega⟩, .inr ⟨by have := HMB.out; omega, by omega⟩, fun x hx => by
        obtain ⟨s, g, cap, a, b, c, d, e1, e2⟩ := T1.out.row x hx
        have := HMB.out
        have hg := d.lt
        exact ⟨s, g, cap, a, b, c, d.mod hM2 (fun q => q), .inr ⟨by omega, by omega⟩, e2, by omega, fun hk => by have := HLt.out g hk; omega⟩, T1.out.inj, fun v hv y hy => by
        right
        obtain ⟨s, hs⟩ := tellA_all HW.out HG.out HF.out.1 v hv y hy
        rw [HA.out] at hs
        obtain ⟨u, hu⟩ := T1.out.all _ hs
        exact ⟨_, hu, rfl⟩⟩)
    have HLv := Lib.hid (show ∀ x ∈ A, ∀ c, x.1 = some c → ∃ v ∈ S.vols, ∃ y ∈ v.pl, y.2 = c from fun x hx c hc => by
      rw [← HA.out] at hx
      exact tellA_live hx hc)
    have JK := Lib.hid (show Mod (fun i => ¬ K i) w w2 from J2.out.mono (fun _ _ q => q.elim))
    clear hpr hM2 hs2 T1 J1 J2 hr
    go_loopw [7, 8] (fun _ _ wr => ∃ left Kt sec, RL K m mb r S A L wr left Kt sec ∧ Mod (fun i => ¬ K i) w wr) (fun _ _ wr => wr.rangeLeft mb r)
    case atStart => exact ⟨_, _, _, HRL.out, JK.out⟩
    case round =>
      clear HRL JK
      obtain ⟨left, Kt, sec, hrl, hM⟩ := hrel
      have RLX := Lib.hid hrl
      have JK := Lib.hid hM
      clear hrl hM
      go_wp2_with (first
        | (at_next; refine wpList_next_pm rfl (.tmp 18) rfl rfl (by omega) RLX.out.pr ?_ ?_)
        | fail)
      · intro hl0
        go_wp2
        refine HR.out _ _ ⟨JK.out, .inl ⟨HF.out, rfl, sec, fun v hv y hy => ?_, RLX.out.md.less RLX.out.sub⟩⟩
        rcases RLX.out.done v hv y hy with q | ⟨z, hz, _⟩
        · exact q
        · rw [hl0] at hz; cases hz
      · intro q vx w3 left' hxl hxL hpr hl0 hlen hM3 hs3 hen
        have PR3 := Lib.hid hpr
        have HL3 := Lib.hid (show ∀ y : Option Nat × Value, y ∈ left' ↔ y ∈ left ∧ y.1 ≠ q from fun y => hl0 y.1 y.2)
        have M3 := Lib.hid hM3
        have HLE := Lib.hid hlen
        have HXL := Lib.hid hxl
        have JK3 := Lib.hid (show Mod (fun i => ¬ K i) w w3 from JK.out.then_ hM3 (fun i hi e hk => by have := HMB.out; omega))
        clear hpr hl0 hlen hM3 hxl hxL
        cases q with
        | none =>
          have RL3 := Lib.hid (RLX.out.skip (x := (none, vx)) rfl PR3.out HL3.out M3.out)
          have hen2 : (Instr.entry (.pointer (some ⟨r, 0, none⟩))).run Tryz.prog w3 = .ok (.tuple #[.pointer none, vx]) w3 := hen
          clear hen
          rw [show pk none = .pointer none from rfl]
          go_wp2_with fail
          go_roundw
          case rel => exact ⟨left', Kt, sec, RL3.out, JK3.out⟩
          case measure => rw [RL3.out.pr.left_eq, RLX.out.pr.left_eq]; exact HLE.out
        | some c =>
          obtain ⟨s, -, -, hsA, -⟩ := RLX.out.row _ HXL.out
          have hlive := HLv.out _ hsA c rfl
          obtain ⟨g, cap, u0, u1, hvx, hb, M4, Kt', sec', hrl4⟩ := RLX.out.put HXL.out rfl PR3.out HL3.out M3.out hlive (fun i hi => by have := HLt.out i hi; have := JK.out.size; omega)
          dsimp only at hvx
          subst hvx
          dsimp only at M4 hrl4
          obtain ⟨w4, hw4⟩ : ∃ z, w3.setCell ⟨c, 0, none⟩ (.slice (some ⟨g, 0, none⟩) S.k cap) = z := ⟨_, rfl⟩
          rw [hw4] at M4 hrl4
          have RL4 := Lib.hid hrl4
          have JK4 := Lib.hid (JK3.out.trans M4)
          have x0 := hb.at_ (i := 0) u0 rfl
          have f0 := hb.free 0
          have HB := Lib.hid hb
          have hen2 : (Instr.entry (.pointer (some ⟨r, 0, none⟩))).run Tryz.prog w3 = .ok (.tuple #[.pointer (some ⟨c, 0, none⟩), .slice (some ⟨g, 0, none⟩) S.k cap]) w3 := hen
          clear hen hrl4 M4 hsA hlive
          rw [show pk (some c) = .pointer (some ⟨c, 0, none⟩) from rfl]
          go_wp2_with fail
          go_roundw
          case rel => exact ⟨left', Kt', sec', RL4.out, JK4.out⟩
          case measure => rw [RL4.out.pr.left_eq, RLX.out.pr.left_eq]; exact HLE.out
  · have HF := Lib.hid hF
    clear hF
    have hrg := run_range_nilMap (P := Tryz.prog) w1 167 123 32 Tryz.underlying167
    have hnx : ∀ ty, (Instr.next (.pointer (some ⟨w1.heap.size, 0, none⟩)) false ty).run Tryz.prog (w1.alloc (.mapIter none 0 #[] 0)) = _ := fun ty => run_next_nilMap w1 ty 0 0 #[]
    go_wp2_with fail
    refine wp_loop_rounds 1 ?_
    rw [rounds_succ]
    go_wp2
    have J2 : Same w (w1.alloc (.mapIter none 0 #[] 0)) := J1.out.same ((Mod.refl _ _).alloc _)
    exact HR.out _ _ ⟨J2.mono (fun _ _ q => q.elim), .inr ⟨HF.out, rfl, HM.out.same J2⟩⟩
end
end Go.Proofs.YtlcepoagpocadaaGreatDoor
