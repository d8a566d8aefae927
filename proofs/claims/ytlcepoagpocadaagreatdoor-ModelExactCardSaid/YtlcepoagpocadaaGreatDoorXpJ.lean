import Derived.Test.YtlcepoagpocadaaGreatDoorXpE
import Derived.Deep.MidRow
import Derived.BigQuiet
import Derived.Great.BuildSlice
set_option linter.unusedSimpArgs false
set_option linter.unusedVariables false
set_option maxRecDepth 100000
/- The document's pool: a volume more. -/
namespace Go.Proofs.YtlcepoagpocadaaGreatDoor
open Go Go.RowKit
def gtB (v : DV) (l : List DV) : Bool := l.any fun y => decide (v.id < y.id)
def insQ (v : DV) (l : List DV) : List DV := if gtB v l = true then insD v l else l
theorem gtB_snoc (v y : DV) (a : List DV) : gtB v (a ++ [y]) = (gtB v a || decide (v.id < y.id)) := by unfold gtB; rw [List.any_append]; simp
theorem gtB_no {v : DV} {a : List DV} (h : gtB v a = false) : ∀ z ∈ a, ¬ v.id < z.id := by
  intro z hz
  have := List.any_eq_false.1 h z hz
  simpa using this
theorem insD_snoc {v y : DV} : ∀ {a : List DV}, gtB v a = true → insD v (a ++ [y]) = insD v a ++ [y]
  | [], h => by simp [gtB] at h
  | z :: a, h => by
    rw [List.cons_append, insD, insD]
    by_cases q : v.id < z.id
    · rw [if_pos q, if_pos q]; rfl
    · rw [if_neg q, if_neg q, insD_snoc (by unfold gtB at h ⊢; rw [List.any_cons] at h; simpa [q] using h)]; rfl
theorem insQ_yes {v y : DV} {a : List DV} (h : gtB v a = true) : insQ v (a ++ [y]) = insQ v a ++ [y] := by
  unfold insQ
  rw [gtB_snoc, h, Bool.true_or, if_pos rfl, if_pos rfl, insD_snoc h]
theorem insQ_now {v y : DV} {a : List DV} (h : gtB v a = false) (q : v.id < y.id) : insQ v (a ++ [y]) = (insQ v a ++ [v]) ++ [y] := by
  unfold insQ
  rw [gtB_snoc, h, decide_eq_true q, Bool.false_or, if_pos rfl, if_neg (by decide), insD_at (r := []) q (gtB_no h)]
  simp
theorem insQ_no {v y : DV} {a : List DV} (h : gtB v a = false) (q : ¬ v.id < y.id) : insQ v (a ++ [y]) = insQ v a ++ [y] := by
  unfold insQ
  rw [gtB_snoc, h, decide_eq_false q, if_neg (by decide), if_neg (by decide)]
theorem insQ_end {v : DV} {a : List DV} (h : gtB v a = false) : insD v a = insQ v a ++ [v] := by
  unfold insQ
  rw [h, if_neg (by decide), insD_end (gtB_no h)]
theorem insQ_len (v : DV) (a : List DV) : (insQ v a).length ≤ a.length + 1 := by
  unfold insQ; split
  · rw [insD_len]; exact Nat.le_refl _
  · omega
theorem mem_insQ {v z : DV} {a : List DV} (h : z ∈ insQ v a) : z = v ∨ z ∈ a := by
  unfold insQ at h
  split at h
  · exact mem_insD.1 h
  · exact .inr h
/-! ### rows of volumes -/
theorem info153 : (Tryz.prog.info? 153).map (fun i => (i.zero, i.size, i.bytes)) = some (some (Value.agg ([Value.int .i64 0, Value.int .i64 0, Value.int .i64 0, Value.bool false, Value.int .i64 0] ++ List.replicate 64 (Value.int .i64 0)).toArray), 69, 552) := by kernel_rfl
theorem under153 : (Tryz.prog.underlying 153).isSome = true ∧ ∀ d, Tryz.prog.underlying 153 = some d → d.isRow = true := by
  constructor
  · rfl
  · intro d h
    have e : Tryz.prog.underlying 153 = some d := h
    revert e
    cases d <;> first | (intro _; rfl) | (intro e; exact absurd e (by
      intro e
      have : (Tryz.prog.underlying 153).map TypeDesc.isRow = some true := by rfl
      rw [e] at this
      cases this))
theorem dv_one {l : List DV} : ∀ u ∈ l.flatMap dvL, u.oneCell' = true := fun u hu => by
  obtain ⟨v, _, hu⟩ := List.mem_flatMap.1 hu
  unfold dvL at hu
  rcases List.mem_append.1 hu with hu | hu
  · simp only [List.mem_cons, List.not_mem_nil, or_false] at hu
    rcases hu with rfl | rfl | rfl | rfl | rfl <;> rfl
  · obtain ⟨c, _, rfl⟩ := List.mem_map.1 hu; rfl
/-- A whole volume is read out of memory. -/
theorem load153 {w : World} {b o : Nat} {v : DV} (hl : v.pl.length = 64) (h : ∀ j, j < 69 → w.cell? ⟨b, o + j, none⟩ = some ((dvL v).getD j undef)) : (Instr.loadAt 153 (.pointer (some ⟨b, o, none⟩))).run Tryz.prog w = .ok (.agg (dvL v).toArray) w := by
  obtain ⟨h1, h2⟩ := under153
  obtain ⟨d, hd⟩ := Option.isSome_iff_exists.1 h1
  refine run_loadAt_mid w b o 153 (dvL v) d (fun j u hu => ?_) hd (h2 d hd) (by rw [dvL_len hl]; rfl)
  have hj := (List.getElem?_eq_some_iff.1 hu).1
  rw [dvL_len hl] at hj
  rw [h j hj, List.getD_eq_getElem?_getD, hu]; rfl
theorem loadF153 {w : World} {b o : Nat} {v : DV} (hl : v.pl.length = 64) (h : ∀ j, j < 69 → w.cell? ⟨b, o + j, none⟩ = some ((dvL v).getD j undef)) : (loadCellsFrom ⟨b, o, none⟩ 0 69 #[]).run Tryz.prog w = .ok (dvL v).toArray w := by
  have := run_loadCells_list (P := Tryz.prog) w ⟨b, o, none⟩ (dvL v) (fun j u hu => by
    have hj := (List.getElem?_eq_some_iff.1 hu).1
    rw [dvL_len hl] at hj
    rw [Addr.add_mid, h j hj, List.getD_eq_getElem?_getD, hu]; rfl)
  rw [dvL_len hl] at this
  simpa [loadCells] using this
theorem range153 {w : World} {b o : Nat} {v : DV} (hl : v.pl.length = 64) (h : ∀ j, j < 69 → w.cell? ⟨b, o + j, none⟩ = some ((dvL v).getD j undef)) : w.rangeAt b o (dvL v) := fun j u hu => by
  have hj := (List.getElem?_eq_some_iff.1 hu).1
  rw [dvL_len hl] at hj
  rw [h j hj, List.getD_eq_getElem?_getD, hu]; rfl
theorem wpList_load153 {ops : Array Oper} {rest : List Oper} {op : Oper} {a : Act} {w : World} {Q : Exit → Act → World → Prop} (hgd : op.guard = none) (x : Operand) (ho : op.op = .load 153 x)
    (b o : Nat) (hx : a.eval x = .pointer (some ⟨b, o, none⟩)) (v : DV) (hl : v.pl.length = 64) (hc : w.rangeAt b o (dvL v)) (X : Array Value) (hX : (dvL v).toArray = X)
    (h : wpList Tryz.prog ops Q rest (a.put op.dst (.agg X)) w) : wpList Tryz.prog ops Q (op :: rest) a w := by
  subst hX
  obtain ⟨h1, h2⟩ := under153
  obtain ⟨d, hd⟩ := Option.isSome_iff_exists.1 h1
  exact wpList_load_mid hgd 153 x ho b o hx (dvL v) d hc hd (h2 d hd) (by rw [dvL_len hl]; rfl) h
theorem fold_put : ∀ (l : List Value) (k : Nat) (cs : Array Value), ((l.zipIdx k).foldl (fun cs x => cs.setIfInBounds (0 * 69 + x.2) x.1) cs).size = cs.size ∧ ∀ i, i < cs.size → ((l.zipIdx k).foldl (fun cs x => cs.setIfInBounds (0 * 69 + x.2) x.1) cs)[i]? = if k ≤ i ∧ i < k + l.length then l[i - k]? else cs[i]?
  | [], k, cs => ⟨rfl, fun i hi => by
    rw [if_neg (by simp only [List.length_nil]; omega)]; rfl⟩
  | a :: l, k, cs => by
    rw [List.zipIdx_cons, List.foldl_cons]
    obtain ⟨h1, h2⟩ := fold_put l (k + 1) (cs.setIfInBounds (0 * 69 + k) a)
    rw [Array.size_setIfInBounds] at h1 h2
    refine ⟨h1, fun i hi => ?_⟩
    rw [h2 i hi, List.length_cons]
    by_cases q : k + 1 ≤ i ∧ i < k + 1 + l.length
    · rw [if_pos q, if_pos (by omega)]
      obtain ⟨j, hj⟩ : ∃ j, i - k = j + 1 := ⟨i - k - 1, by omega⟩
      rw [hj, List.getElem?_cons_succ, show i - (k + 1) = j by omega]
    · rw [if_neg q]
      by_cases e : i = k
      · subst e
        rw [if_pos (by omega), Nat.sub_self, Array.getElem?_setIfInBounds, if_pos (by omega)]
        simp [hi]
      · rw [if_neg (by omega), Array.getElem?_setIfInBounds, if_neg (by omega)]
theorem fill153 (Y cs : Array Value) (hY : Y.size = 69) (hc : cs.size = 69) : Instr.fill (fun i => some (i * 69, 69)) cs [(0, .agg Y)] = some Y := by
  unfold Instr.fill
  have hv : (Value.agg Y).cells = Y := rfl
  simp only [hv]
  rw [if_neg (by rw [hY, hc]; decide)]
  unfold Instr.fill
  congr 1
  obtain ⟨h1, h2⟩ := fold_put Y.toList 0 cs
  have e : Y.zipIdx.foldl (fun cs x => cs.setIfInBounds (0 * 69 + x.2) x.1) cs = (Y.toList.zipIdx 0).foldl (fun cs x => cs.setIfInBounds (0 * 69 + x.2) x.1) cs := by
    rw [← Array.foldl_toList, Array.toList_zipIdx]
  refine Eq.trans ?_ (e.trans ?_)
  · rfl
  · apply Array.ext_getElem?
    intro i
    by_cases q : i < cs.size
    · rw [h2 i q, if_pos (by simp; omega)]; simp
    · rw [Array.getElem?_eq_none (by omega), Array.getElem?_eq_none (by omega)]
theorem info153' : (Tryz.prog.info? 153).isSome = true := by kernel_rfl
theorem wpList_build153 {ops : Array Oper} {rest : List Oper} {op : Oper} {a : Act} {w : World} {Q : Exit → Act → World → Prop} (hg : op.guard = none) (x : Operand) (ho : op.op = .buildSlice 56 1 #[(0, x)])
    (Y : Array Value) (hx : a.eval x = .agg Y) (hY : Y.size = 69)
    (h : wpList Tryz.prog ops Q rest (a.put op.dst (.slice (some ⟨w.heap.size, 0, none⟩) 1 1)) (w.alloc (.cells Y 153))) : wpList Tryz.prog ops Q (op :: rest) a w := by
  obtain ⟨i0, hi0, hz0, hz1, hz2⟩ := info_parts info153
  refine wpList_buildSlice hg 56 153 1 _ ho Y i0 _ Tryz.underlying56 hi0 hz0 (by rw [hz1]; decide) (by rw [hz1]; decide) ?_ h
  rw [hz1]
  have e : (Array.map (fun (z : Nat × Operand) => match z with | (i, x) => (i, a.eval x)) #[(0, x)]).toList = [(0, .agg Y)] := by simp [hx]
  rw [e]
  exact fill153 Y _ hY (by simp)
theorem dvA_len {v : DV} {X : Array Value} (hl : v.pl.length = 64) (hX : (dvL v).toArray = X) : X.size = 69 := by rw [← hX]; simp [dvL_len hl]
/-- Volumes lie one behind another. -/
def DvAt (w : World) (src : Addr) (l : List DV) : Prop := ∀ j u, (l.flatMap dvL)[j]? = some u → w.cell? (src.add j) = some u
theorem dv_new (w : World) (v : DV) (X : Array Value) (hX : X = (dvL v).toArray) (t : TypeId) : DvAt (w.alloc (.cells X t)) ⟨w.heap.size, 0, none⟩ [v] := fun j u hj => by
  have e : Addr.add ⟨w.heap.size, 0, none⟩ j = ⟨w.heap.size, j, none⟩ := by simp [Addr.add]; intro q; exact q.symm
  subst hX
  rw [e]
  refine ((Blk.new w (dvL v).toArray t).cell j).trans ?_
  have : ([v].flatMap dvL) = dvL v := by simp
  rw [this] at hj
  rw [List.getElem?_toArray]
  exact hj
theorem wpList_append_dv {w : World} {ops : Array Oper} {rest : List Oper} {o : Oper} {a : Act} {Q : Exit → Act → World → Prop} (hgd : Region.wanted o (yielded ops a.tmps) = true) (s x : Operand)
    (ho : o.op = .call { callee := .builtin .append, args := #[s, x], argTypes := #[56, 56] })
    (B : Nat) (v : Value) (ps : List DV) (n : Nat) (hn : ps.length = n) (hs : a.eval s = v) (hown : w.ownsRow B 153 69 v n (ps.flatMap dvL))
    (src : Addr) (m c : Nat) (qs : List DV) (hm : qs.length = m) (h0 : 0 < m) (hx : a.eval x = .slice (some src) m c) (hq : DvAt w src qs) (hl : ∀ v ∈ qs, v.pl.length = 64)
    (h63 : n + m ≤ 100000) (hbase : B ≤ w.heap.size)
    (h : ∀ g cap w', w'.ownsRow B 153 69 (.slice (some ⟨g, 0, none⟩) (n + m) cap) (n + m) ((ps ++ qs).flatMap dvL) → Mod (fun i => v.ownBlock = some i) w w' → (v.ownBlock = some g ∨ w.heap.size ≤ g) → wpList Tryz.prog ops Q rest (a.put o.dst (.slice (some ⟨g, 0, none⟩) (n + m) cap)) w') : wpList Tryz.prog ops Q (o :: rest) a w := by
  refine wpList_step fun K hK => ?_
  rw [if_pos hgd]
  subst hm
  obtain ⟨i0, hi0, hz0, hz1, hz2⟩ := info_parts info153
  refine wp_append_lies w s x 56 ho B 153 i0 _ 69 552 Tryz.underlying56 hi0 hz0 hz1 hz2 rfl (by decide) v n (ps.flatMap dvL) hs hown src qs.length c (qs.flatMap dvL) hx (by rw [dvF_len hl]) hq dv_one h0 (by unfold maxLen; omega) (by omega) hbase _ rfl (fun g cap w' h1 h2 h3 h4 => ?_)
  refine hK _ _ (h g cap w' ?_ ((Mod.refl _ w).grown h2 (fun k hk _ => hk.symm ▸ rfl)) (h3.imp id (fun q => by omega)))
  rw [List.flatMap_append]; exact h1
section
variable {F : Nat → Prop} {w : World} {p : Nat} {D : DP}
def dvV (v : DV) : Value := .agg (dvL v).toArray
set_option maxHeartbeats 4000000 in
theorem dput_any (h : Dq F w p D) (hB : D.vols.length ≤ 10000) (v : DV) (hv : v.pl.length = 64) :
    Calls Tryz.prog 92 #[bp p, dvV v] w fun e w' => e = .returned (.tuple #[]) ∧ (DOk { D with vols := insD v D.vols } → ∃ F', Dq F' w' p { D with vols := insD v D.vols } ∧ ∀ i, F' i → F i ∨ w.heap.size ≤ i) ∧ Mod F w w' := by
  refine opq fun R HR => ?_
  obtain ⟨hO, ga, gc, cv, gs, tag, hx⟩ := h
  have HX := Lib.hid hx
  have HO := Lib.hid hO
  have x1 := hx.blk.at_ (i := 1) _ rfl
  have hpl := hx.blk.lt
  obtain ⟨n, hn⟩ : ∃ n, D.vols.length = n := ⟨_, rfl⟩
  rw [hn] at x1 hB
  have HN := Lib.hid hn
  have HVL := Lib.hid hv
  obtain ⟨X, hX⟩ : ∃ X, (dvL v).toArray = X := ⟨_, rfl⟩
  have HXX := Lib.hid hX
  unfold bp dvV
  rw [hX]
  have BX := Lib.hid (Blk.new w X 153)
  have J0 := Lib.hid (show Same w (w.alloc (.cells X 153)) from (Mod.refl _ _).alloc _)
  obtain ⟨E, hE⟩ : ∃ E, w.heap.size = E := ⟨_, rfl⟩
  obtain ⟨w1, hw1⟩ : ∃ w1, w.alloc (.cells X 153) = w1 := ⟨_, rfl⟩
  clear hx hO hn hX hv
  go_enter Tryz.func92, Tryz.ntmps92
  go_wp2_with fail
  have BX1 := Lib.hid (show Blk w1 E X by rw [← hw1, ← hE]; exact BX.out)
  have J1 := Lib.hid (show Same w w1 by rw [← hw1]; exact J0.out)
  have hE1 : w1.heap.size = E + 1 := by rw [← hw1, ← hE]; simp
  have OE := Lib.hid (show (w1.alloc (.cells #[] 153)).ownsRow w1.heap.size 153 69 (.slice (some ⟨w1.heap.size, 0, none⟩) 0 0) 0 [] from ⟨rfl, .inr ⟨_, 0, #[], rfl, Nat.le_refl _, heap_new _ _, Nat.le_refl _, by unfold maxLen; omega, rfl, rfl⟩⟩)
  have JE := Lib.hid (show Same w1 (w1.alloc (.cells #[] 153)) from (Mod.refl _ _).alloc _)
  have hEE := Lib.hid hE1
  clear BX J0 hw1 hE x1 hpl hE1
  go_loopw [4, 5, 6] (fun sv dn i wr => ∃ (j m : Nat), j ≤ n ∧ i = .int .i64 j ∧ dn = .bool (gtB v (D.vols.take j)) ∧ (insQ v (D.vols.take j)).length = m ∧ m ≤ j + 1 ∧ wr.ownsRow w1.heap.size 153 69 sv m ((insQ v (D.vols.take j)).flatMap dvL) ∧ Same w1 wr) (fun _ _ i _ => n - (intOf i).toNat)
  case atStart => exact ⟨0, 0, Nat.zero_le _, rfl, rfl, rfl, Nat.zero_le _, OE.out, JE.out⟩
  case round =>
    obtain ⟨j, m, hj, rfl, rfl, hml, hmj, hown, hM⟩ := hrel
    have K := Lib.hid hown
    have J := Lib.hid hM
    have HML := Lib.hid hml
    have XR := Lib.hid ((HX.out.same J1.out).same hM)
    have hsz := hM.size
    have hpl := XR.out.blk.lt
    have x1 := XR.out.blk.at_ (i := 1) _ rfl
    rw [HN.out] at x1
    clear hown hM hml
    by_cases hlt : j < n
    · obtain ⟨u, hu⟩ : ∃ u, D.vols[j]? = some u := ⟨_, List.getElem?_eq_getElem (by rw [HN.out]; exact hlt)⟩
      obtain ⟨g, rfl, -, -, hR, -, hc, hf⟩ := XR.out.cell HO.out.len hu
      have hgl := hR.lt
      have hul := HO.out.len u (List.mem_of_getElem? hu)
      have c0 := hc 0 (by decide)
      rw [Nat.add_zero, show (dvL u).getD 0 undef = .int .i64 u.id from rfl] at c0
      have HCC := Lib.hid hc
      obtain ⟨Y, hY⟩ : ∃ Y, (dvL u).toArray = Y := ⟨_, rfl⟩
      have HY := Lib.hid hY
      have BR := Lib.hid (BX1.out.mod J.out (fun q => q))
      have e0 := BR.out.cell 0
      rw [← HXX.out, List.getElem?_toArray, show (dvL v)[0]? = some (.int .i64 v.id) from rfl] at e0
      have hEl := BR.out.lt
      have HTK := Lib.hid (show D.vols.take (j + 1) = D.vols.take j ++ [u] by
        obtain ⟨h1, rfl⟩ := List.getElem?_eq_some_iff.1 hu
        exact List.take_succ_eq_append_getElem h1)
      have HUL := Lib.hid hul
      have HUU := Lib.hid hu
      have HUU := Lib.hid hu
      have HUU := Lib.hid hu
      have HUU := Lib.hid hu
      have HUU := Lib.hid hu
      have HUU := Lib.hid hu
      clear hu hR hc hf hY hul
      have HAL := Lib.hid (show (D.vols.take j).length = j by rw [List.length_take, HN.out]; omega)
      obtain ⟨A, hA⟩ : ∃ A, D.vols.take j = A := ⟨_, rfl⟩
      rw [hA] at K HML HTK HAL ⊢
      clear hA
      by_cases hlt2 : v.id < u.id
      · have d1 : decide (u.id > v.id) = true := decide_eq_true hlt2
        by_cases hgt : gtB v A = true
        · rw [hgt]
          have QS := Lib.hid (insQ_yes (y := u) hgt)
          have GS := Lib.hid (show gtB v (A ++ [u]) = true by rw [gtB_snoc, hgt]; rfl)
          go_upto_region 6 with fail
          go_big_quiet (fail)
          obtain ⟨w2, hw2⟩ : ∃ z, wr.drewN nq = z := ⟨_, rfl⟩
          rw [hw2]
          have D2 := Lib.hid (show Same wr w2 by rw [← hw2]; exact (Mod.refl _ _).drewN nq)
          have J2 := Lib.hid (J.out.same D2.out)
          have K2 := Lib.hid (own_mod2 K.out D2.out (fun _ _ q => q))
          have L2 := Lib.hid (range153 HUL.out (o := j * 69) (b := g) (w := w2) (fun x hx => by rw [← hw2]; exact HCC.out x hx))
          have E2 := Lib.hid (range153 HVL.out (o := 0) (b := E) (w := w2) (fun x hx => by
            have := (BR.out.mod D2.out (fun q => q)).cell x
            rw [← HXX.out, List.getElem?_toArray, List.getElem?_eq_getElem (by rw [dvL_len HVL.out]; exact hx)] at this
            rw [Nat.zero_add, this, List.getD_eq_getElem?_getD, List.getElem?_eq_getElem (by rw [dvL_len HVL.out]; exact hx)]
            rfl))
          have X2 := Lib.hid (XR.out.same D2.out)
          have x1b := X2.out.blk.at_ (i := 1) _ rfl
          rw [HN.out] at x1b
          have hs2 := J2.out.size
          have hgl2 : g < w2.heap.size := Nat.lt_of_lt_of_le hgl D2.out.size
          have hEl2 : E < w2.heap.size := Nat.lt_of_lt_of_le hEl D2.out.size
          have hpl2 := X2.out.blk.lt
          clear hw2 c0 e0 x1 hgl hEl hpl hsz
          go_wp2_with (first | (refine wpList_load153 (by rfl) (.tmp 42) (by rfl) g (j * 69) (by rfl) u HUL.out L2.out Y HY.out ?_) | (refine wpList_build153 (by rfl) (.tmp 43) (by rfl) Y (by rfl) (dvA_len HUL.out HY.out) ?_) | (at_builtin; refine wpList_append_dv (by rfl) (.tmp 36) (.tmp 44) rfl w1.heap.size _ (insQ v A) m HML.out rfl (own_mod2 K2.out ((Mod.refl _ _).alloc _) (fun _ _ q => q)) ⟨w2.heap.size, 0, none⟩ 1 1 [u] rfl (by decide) rfl (dv_new w2 u Y HY.out.symm _) (fun z hz => by rw [List.mem_singleton.1 hz]; exact HUL.out) (by omega) (by simp; omega) ?_; intro ga2 ca2 w3 hownA hMA hgA))
          go_roundw
          case rel => exact ⟨j + 1, m + 1, by omega, by go_num, by rw [HTK.out, GS.out], by rw [HTK.out, QS.out, List.length_append, HML.out]; rfl, by omega, by rw [HTK.out, QS.out]; exact hownA, (J2.out.alloc _).then_ hMA (fun i hi q => by have := owns_ge K2.out i q; omega)⟩
          case measure => simp [intOf]; omega
        · have hgf : gtB v A = false := by simpa using hgt
          rw [hgf]
          clear hgt
          have QS := Lib.hid (insQ_now (y := u) hgf hlt2)
          have GS := Lib.hid (show gtB v (A ++ [u]) = true by rw [gtB_snoc, decide_eq_true hlt2, Bool.or_true])
          go_upto_region 6 with fail
          go_big_quiet (fail)
          obtain ⟨w2, hw2⟩ : ∃ z, wr.drewN nq = z := ⟨_, rfl⟩
          rw [hw2]
          have D2 := Lib.hid (show Same wr w2 by rw [← hw2]; exact (Mod.refl _ _).drewN nq)
          have J2 := Lib.hid (J.out.same D2.out)
          have K2 := Lib.hid (own_mod2 K.out D2.out (fun _ _ q => q))
          have L2 := Lib.hid (range153 HUL.out (o := j * 69) (b := g) (w := w2) (fun x hx => by rw [← hw2]; exact HCC.out x hx))
          have E2 := Lib.hid (range153 HVL.out (o := 0) (b := E) (w := w2) (fun x hx => by
            have := (BR.out.mod D2.out (fun q => q)).cell x
            rw [← HXX.out, List.getElem?_toArray, List.getElem?_eq_getElem (by rw [dvL_len HVL.out]; exact hx)] at this
            rw [Nat.zero_add, this, List.getD_eq_getElem?_getD, List.getElem?_eq_getElem (by rw [dvL_len HVL.out]; exact hx)]
            rfl))
          have X2 := Lib.hid (XR.out.same D2.out)
          have x1b := X2.out.blk.at_ (i := 1) _ rfl
          rw [HN.out] at x1b
          have hs2 := J2.out.size
          have hgl2 : g < w2.heap.size := Nat.lt_of_lt_of_le hgl D2.out.size
          have hEl2 : E < w2.heap.size := Nat.lt_of_lt_of_le hEl D2.out.size
          have hpl2 := X2.out.blk.lt
          clear hw2 c0 e0 x1 hgl hEl hpl hsz
          go_upto_region 9 with (first | (refine wpList_load153 (by rfl) (.tmp 3) (by rfl) E 0 (by rfl) v HVL.out E2.out X HXX.out ?_) | (refine wpList_build153 (by rfl) (.tmp 33) (by rfl) X (by rfl) (dvA_len HVL.out HXX.out) ?_) | (at_builtin; refine wpList_append_dv (by rfl) (.tmp 32) (.tmp 34) rfl w1.heap.size _ (insQ v A) m HML.out rfl (own_mod2 K2.out ((Mod.refl _ _).alloc _) (fun _ _ q => q)) ⟨w2.heap.size, 0, none⟩ 1 1 [v] rfl (by decide) rfl (dv_new w2 v X HXX.out.symm _) (fun z hz => by rw [List.mem_singleton.1 hz]; exact HVL.out) (by omega) (by simp; omega) ?_; intro ga2 ca2 w3 hownA hMA hgA))
          have KA := Lib.hid hownA
          have DA := Lib.hid (show Mod (fun i => w1.heap.size ≤ i) w2 w3 from ((Mod.refl _ _).alloc _).then_ hMA (fun i hi q => owns_ge K2.out i q))
          have JA := Lib.hid (J2.out.then_ DA.out (fun i hi q => by omega))
          have hgA2 : w1.heap.size ≤ ga2 := owns_ge KA.out ga2 rfl
          have HMA := Lib.hid (show (insQ v A ++ [v]).length = m + 1 by rw [List.length_append, HML.out]; rfl)
          have XA := Lib.hid ((HX.out.same J1.out).same JA.out)
          have x1c := XA.out.blk.at_ (i := 1) _ rfl
          rw [HN.out] at x1c
          obtain ⟨g9, e9, -, -, hR9, -, hc9, -⟩ := XA.out.cell HO.out.len HUU.out
          obtain rfl : g9 = g := by injection e9 with e9; injection e9 with e9; exact e9.symm
          have hgl3 := hR9.lt
          have hpl3 := XA.out.blk.lt
          have hs3 := JA.out.size
          have L3 := Lib.hid (range153 HUL.out (o := j * 69) (b := g9) (w := w3) hc9)
          clear hownA hMA hgA hR9 hc9 e9 x1b hgl2 hEl2 hpl2
          go_wp2_with (first | (refine wpList_load153 (by rfl) (.tmp 42) (by rfl) g9 (j * 69) (by rfl) u HUL.out L3.out Y HY.out ?_) | (refine wpList_build153 (by rfl) (.tmp 43) (by rfl) Y (by rfl) (dvA_len HUL.out HY.out) ?_) | (at_builtin; refine wpList_append_dv (by rfl) (.tmp 36) (.tmp 44) rfl w1.heap.size _ (insQ v A ++ [v]) (m + 1) HMA.out rfl (own_mod2 KA.out ((Mod.refl _ _).alloc _) (fun _ _ q => q)) ⟨w3.heap.size, 0, none⟩ 1 1 [u] rfl (by decide) rfl (dv_new w3 u Y HY.out.symm _) (fun z hz => by rw [List.mem_singleton.1 hz]; exact HUL.out) (by omega) (by simp; omega) ?_; intro gb2 cb2 w4 hownB hMB hgB))
          go_roundw
          case rel => exact ⟨j + 1, m + 1 + 1, by omega, by go_num, by rw [HTK.out, GS.out], by rw [HTK.out, QS.out, List.length_append, HMA.out]; rfl, by have := insQ_len v (A ++ [u]); rw [QS.out] at this; simp only [List.length_append, List.length_singleton, HAL.out, HML.out] at this; omega, by rw [HTK.out, QS.out]; exact hownB, (JA.out.alloc _).then_ hMB (fun i hi q => by have := owns_ge KA.out i q; omega)⟩
          case measure => simp [intOf]; omega
      · have d1 : decide (u.id > v.id) = false := decide_eq_false hlt2
        by_cases hgt : gtB v A = true
        · rw [hgt]
          have QS := Lib.hid (insQ_yes (y := u) hgt)
          have GS := Lib.hid (show gtB v (A ++ [u]) = true by rw [gtB_snoc, hgt]; rfl)
          go_upto_region 6 with fail
          go_big_quiet (fail)
          obtain ⟨w2, hw2⟩ : ∃ z, wr.drewN nq = z := ⟨_, rfl⟩
          rw [hw2]
          have D2 := Lib.hid (show Same wr w2 by rw [← hw2]; exact (Mod.refl _ _).drewN nq)
          have J2 := Lib.hid (J.out.same D2.out)
          have K2 := Lib.hid (own_mod2 K.out D2.out (fun _ _ q => q))
          have L2 := Lib.hid (range153 HUL.out (o := j * 69) (b := g) (w := w2) (fun x hx => by rw [← hw2]; exact HCC.out x hx))
          have E2 := Lib.hid (range153 HVL.out (o := 0) (b := E) (w := w2) (fun x hx => by
            have := (BR.out.mod D2.out (fun q => q)).cell x
            rw [← HXX.out, List.getElem?_toArray, List.getElem?_eq_getElem (by rw [dvL_len HVL.out]; exact hx)] at this
            rw [Nat.zero_add, this, List.getD_eq_getElem?_getD, List.getElem?_eq_getElem (by rw [dvL_len HVL.out]; exact hx)]
            rfl))
          have X2 := Lib.hid (XR.out.same D2.out)
          have x1b := X2.out.blk.at_ (i := 1) _ rfl
          rw [HN.out] at x1b
          have hs2 := J2.out.size
          have hgl2 : g < w2.heap.size := Nat.lt_of_lt_of_le hgl D2.out.size
          have hEl2 : E < w2.heap.size := Nat.lt_of_lt_of_le hEl D2.out.size
          have hpl2 := X2.out.blk.lt
          clear hw2 c0 e0 x1 hgl hEl hpl hsz
          go_wp2_with (first | (refine wpList_load153 (by rfl) (.tmp 42) (by rfl) g (j * 69) (by rfl) u HUL.out L2.out Y HY.out ?_) | (refine wpList_build153 (by rfl) (.tmp 43) (by rfl) Y (by rfl) (dvA_len HUL.out HY.out) ?_) | (at_builtin; refine wpList_append_dv (by rfl) (.tmp 36) (.tmp 44) rfl w1.heap.size _ (insQ v A) m HML.out rfl (own_mod2 K2.out ((Mod.refl _ _).alloc _) (fun _ _ q => q)) ⟨w2.heap.size, 0, none⟩ 1 1 [u] rfl (by decide) rfl (dv_new w2 u Y HY.out.symm _) (fun z hz => by rw [List.mem_singleton.1 hz]; exact HUL.out) (by omega) (by simp; omega) ?_; intro ga2 ca2 w3 hownA hMA hgA))
          go_roundw
          case rel => exact ⟨j + 1, m + 1, by omega, by go_num, by rw [HTK.out, GS.out], by rw [HTK.out, QS.out, List.length_append, HML.out]; rfl, by omega, by rw [HTK.out, QS.out]; exact hownA, (J2.out.alloc _).then_ hMA (fun i hi q => by have := owns_ge K2.out i q; omega)⟩
          case measure => simp [intOf]; omega
        · have hgf : gtB v A = false := by simpa using hgt
          rw [hgf]
          clear hgt
          have QS := Lib.hid (insQ_no (y := u) hgf hlt2)
          have GS := Lib.hid (show gtB v (A ++ [u]) = false by rw [gtB_snoc, hgf, decide_eq_false hlt2]; rfl)
          go_upto_region 6 with fail
          go_big_quiet (fail)
          obtain ⟨w2, hw2⟩ : ∃ z, wr.drewN nq = z := ⟨_, rfl⟩
          rw [hw2]
          have D2 := Lib.hid (show Same wr w2 by rw [← hw2]; exact (Mod.refl _ _).drewN nq)
          have J2 := Lib.hid (J.out.same D2.out)
          have K2 := Lib.hid (own_mod2 K.out D2.out (fun _ _ q => q))
          have L2 := Lib.hid (range153 HUL.out (o := j * 69) (b := g) (w := w2) (fun x hx => by rw [← hw2]; exact HCC.out x hx))
          have E2 := Lib.hid (range153 HVL.out (o := 0) (b := E) (w := w2) (fun x hx => by
            have := (BR.out.mod D2.out (fun q => q)).cell x
            rw [← HXX.out, List.getElem?_toArray, List.getElem?_eq_getElem (by rw [dvL_len HVL.out]; exact hx)] at this
            rw [Nat.zero_add, this, List.getD_eq_getElem?_getD, List.getElem?_eq_getElem (by rw [dvL_len HVL.out]; exact hx)]
            rfl))
          have X2 := Lib.hid (XR.out.same D2.out)
          have x1b := X2.out.blk.at_ (i := 1) _ rfl
          rw [HN.out] at x1b
          have hs2 := J2.out.size
          have hgl2 : g < w2.heap.size := Nat.lt_of_lt_of_le hgl D2.out.size
          have hEl2 : E < w2.heap.size := Nat.lt_of_lt_of_le hEl D2.out.size
          have hpl2 := X2.out.blk.lt
          clear hw2 c0 e0 x1 hgl hEl hpl hsz
          go_wp2_with (first | (refine wpList_load153 (by rfl) (.tmp 42) (by rfl) g (j * 69) (by rfl) u HUL.out L2.out Y HY.out ?_) | (refine wpList_build153 (by rfl) (.tmp 43) (by rfl) Y (by rfl) (dvA_len HUL.out HY.out) ?_) | (at_builtin; refine wpList_append_dv (by rfl) (.tmp 36) (.tmp 44) rfl w1.heap.size _ (insQ v A) m HML.out rfl (own_mod2 K2.out ((Mod.refl _ _).alloc _) (fun _ _ q => q)) ⟨w2.heap.size, 0, none⟩ 1 1 [u] rfl (by decide) rfl (dv_new w2 u Y HY.out.symm _) (fun z hz => by rw [List.mem_singleton.1 hz]; exact HUL.out) (by omega) (by simp; omega) ?_; intro ga2 ca2 w3 hownA hMA hgA))
          go_roundw
          case rel => exact ⟨j + 1, m + 1, by omega, by go_num, by rw [HTK.out, GS.out], by rw [HTK.out, QS.out, List.length_append, HML.out]; rfl, by omega, by rw [HTK.out, QS.out]; exact hownA, (J2.out.alloc _).then_ hMA (fun i hi q => by have := owns_ge K2.out i q; omega)⟩
          case measure => simp [intOf]; omega
    · obtain rfl : j = n := by omega
      have HTA : D.vols.take j = D.vols := List.take_of_length_le (by rw [HN.out]; exact Nat.le_refl _)
      rw [HTA] at K HML ⊢
      have BR := Lib.hid (BX1.out.mod J.out (fun q => q))
      have hEl := BR.out.lt
      have E2 := Lib.hid (range153 HVL.out (o := 0) (b := E) (w := wr) (fun x hx => by
        have := BR.out.cell x
        rw [← HXX.out, List.getElem?_toArray, List.getElem?_eq_getElem (by rw [dvL_len HVL.out]; exact hx)] at this
        rw [Nat.zero_add, this, List.getD_eq_getElem?_getD, List.getElem?_eq_getElem (by rw [dvL_len HVL.out]; exact hx)]
        rfl))
      have FIN := Lib.hid (show ∀ (g c : Nat) (W : World) (mm : Nat), (insD v D.vols).length = mm → W.ownsRow w1.heap.size 153 69 (.slice (some ⟨g, 0, none⟩) mm c) mm ((insD v D.vols).flatMap dvL) → Same w1 W →
          R (.returned (.tuple #[])) (W.setCell ⟨p, 1, none⟩ (.slice (some ⟨g, 0, none⟩) mm c)) from fun g c W mm hmm hown hM => by
        have hsz := hM.size
        have hw1 := hEE.out
        have hsw := J1.out.size
        obtain ⟨g', cap', e', hb', hcp, hR⟩ := RowV.of_owns hown (by rw [← hmm, insD_len]; omega)
        injection e' with e1 _ ec
        rw [← ec] at hcp
        injection e1 with e1
        injection e1 with e1
        subst e1
        have hFl : ∀ i, F i → i < w.heap.size := HX.out.fl
        have hww : w.heap.size ≤ w1.heap.size := hsw
        obtain ⟨tag, hD, hMod⟩ := ((HX.out.same J1.out).same hM).vols_new (F' := fun i => F i ∨ i = g) (fun i => .inl) (fun i hi => hi.elim (fun q => by have := hFl i q; omega) (fun q => by rw [q]; exact hR.lt)) (ga' := some ⟨g, 0, none⟩) (gc' := c) (l := insD v D.vols) (by rw [hmm]; exact hcp) (fun _ => ⟨g, rfl, by rw [hmm]; exact hR, fun q => by have := hFl _ q; omega, .inr rfl⟩)
        rw [hmm] at hD hMod
        exact HR.out _ _ ⟨rfl, fun hok => ⟨_, ⟨hok, _, _, _, _, _, hD⟩, fun i hi => hi.elim .inl (fun q => .inr (by omega))⟩, ((J1.out.same hM).mono (fun _ _ q => q.elim)).then_ hMod (fun i _ q => q)⟩)
      have f1 := XR.out.blk.free 1
      by_cases hgt : gtB v D.vols = true
      · rw [hgt]
        have HE := Lib.hid (show insD v D.vols = insQ v D.vols by unfold insQ; rw [if_pos hgt])
        obtain ⟨g9, c9, rfl, -, -, hR9⟩ := RowV.of_owns K.out (by rw [← HML.out, ← HE.out, insD_len]; omega)
        clear hR9
        go_wp2_with fail
        go_end0
        exact FIN.out g9 c9 wr m (by rw [HE.out]; exact HML.out) (by rw [HE.out]; exact K.out) J.out
      · have hgf : gtB v D.vols = false := by simpa using hgt
        rw [hgf]
        have HE := Lib.hid (insQ_end hgf)
        clear hgt
        go_upto_region 12 with (first | (refine wpList_load153 (by rfl) (.tmp 3) (by rfl) E 0 (by rfl) v HVL.out E2.out X HXX.out ?_) | (refine wpList_build153 (by rfl) (.tmp 49) (by rfl) X (by rfl) (dvA_len HVL.out HXX.out) ?_) | (at_builtin; refine wpList_append_dv (by rfl) (.tmp 48) (.tmp 50) rfl w1.heap.size _ (insQ v D.vols) m HML.out rfl (own_mod2 K.out ((Mod.refl _ _).alloc _) (fun _ _ q => q)) ⟨wr.heap.size, 0, none⟩ 1 1 [v] rfl (by decide) rfl (dv_new wr v X HXX.out.symm _) (fun z hz => by rw [List.mem_singleton.1 hz]; exact HVL.out) (by omega) (by simp; omega) ?_; intro ga2 ca2 w3 hownA hMA hgA))
        have KA := Lib.hid hownA
        have JA := Lib.hid ((J.out.alloc _).then_ hMA (fun i hi q => by have := owns_ge K.out i q; omega))
        have XA := Lib.hid ((HX.out.same J1.out).same JA.out)
        have f1b := XA.out.blk.free 1
        have x1b := XA.out.blk.at_ (i := 1) _ rfl
        rw [HN.out] at x1b
        have hplb := XA.out.blk.lt
        clear hownA hMA hgA f1 hpl x1 hEl hsz
        go_wp2_with fail
        go_end0
        exact FIN.out ga2 ca2 w3 (m + 1) (by rw [HE.out, List.length_append, HML.out]; rfl) (by rw [HE.out]; exact KA.out) JA.out
end
end Go.Proofs.YtlcepoagpocadaaGreatDoor
set_option maxRecDepth 100000
/- The document's pool: volumes are created, deleted, taken a snapshot of, resized, pinned. -/
namespace Go.Proofs.YtlcepoagpocadaaGreatDoor
open Go Go.RowKit
def StepD (F : Nat → Prop) (w : World) (p : Nat) (D : DP) (X : Int × MS) (e : Ending) (w' : World) : Prop := ∃ (er : Int) (D' : DP) (F' : Nat → Prop),
  e = .returned (.int .i64 er) ∧ (er, toMS D') = X ∧ Dq F' w' p D' ∧ (∀ i, F' i → F i ∨ w.heap.size ≤ i) ∧ Mod F w w' ∧ D'.k = D.k ∧ D'.births ≤ D.births + 1 ∧ D.births ≤ D'.births ∧ D'.ch = D.ch
theorem DOk.births {D : DP} (h : DOk D) (b : Int) : DOk { D with births := b } := ⟨h.k1, h.k8, h.nd, h.ids, h.sizes, h.len, h.big, h.out, h.ck⟩
theorem toMS_births (D : DP) (b : Int) : toMS { D with births := b } = toMS D := rfl
theorem build153 (a b c : Int) (W : World) : (Instr.build 153 #[(0, .int .i64 a), (1, .int .i64 b), (2, .int .i64 c)]).run Tryz.prog W = .ok (dvV ⟨a, b, c, false, 0, zeros64⟩) W := by kernel_rfl
section
variable {F : Nat → Prop} {w : World} {p : Nat} {D : DP}
theorem StepD.no (h : Dq F w p D) {w' : World} (M : Same w w') (er : Int) : StepD F w p D (er, toMS D) (.returned (.int .i64 er)) w' :=
  ⟨er, D, F, rfl, rfl, h.same M, fun i => .inl, M.mono (fun _ _ q => q.elim), rfl, by omega, Int.le_refl _, rfl⟩
set_option maxHeartbeats 4000000 in
theorem dcreate_any (h : Dq F w p D) (hB : D.vols.length ≤ 1000) (hb : 0 ≤ D.births ∧ D.births ≤ 100000) (id size : Int) :
    Calls Tryz.prog 60 #[bp p, .int .i64 id, .int .i64 size] w fun e w' => StepD F w p D (createS (toMS D) id size 0 0) e w' := by
  refine opq fun R HR => ?_
  have HD := Lib.hid h
  have HF := Lib.hid (dfind_any h (by omega) id)
  have hO0 := Lib.hid h.1
  obtain ⟨hb0, hb1⟩ := hb
  clear h
  by_cases q : id < 1 ∨ 16 < id ∨ size < 0 ∨ 64 < size
  · have HC := Lib.hid (show createS (toMS D) id size 0 0 = (1, toMS D) by unfold createS; rw [if_pos q])
    rw [HC.out] at HR
    unfold bp at *
    go_enter Tryz.func60, Tryz.ntmps60
    go_wp2_with fail
    all_goals exact HR.out _ _ (StepD.no HD.out (Mod.refl _ _) 1)
  · have q1 : ¬ id < 1 := fun r => q (.inl r)
    have q2 : ¬ 16 < id := fun r => q (.inr (.inl r))
    have q3 : ¬ size < 0 := fun r => q (.inr (.inr (.inl r)))
    have q4 : ¬ 64 < size := fun r => q (.inr (.inr (.inr r)))
    unfold bp at *
    go_enter Tryz.func60, Tryz.ntmps60
    go_wp2_with fail
    refine HF.out.mono ?_
    rintro e w1 ⟨r, rfl, hr, M⟩
    have N1 := Lib.hid M
    have HD1 := Lib.hid (HD.out.same M)
    clear M HF
    rcases hr with ⟨i, v, rfl, hv, hid⟩ | ⟨rfl, hno⟩
    · have HC := Lib.hid (show createS (toMS D) id size 0 0 = (8, toMS D) by
        unfold createS
        rw [if_neg q, ← hid, hO0.out.find hv])
      rw [HC.out] at HR
      clear hv hid q
      go_wp2_with fail
      exact HR.out _ _ (StepD.no HD.out N1.out 8)
    · have HNO := Lib.hid hno
      obtain ⟨b, hbb⟩ : ∃ b, D.births = b := ⟨_, rfl⟩
      have HCR := Lib.hid (createD (b := b + 1) hO0.out (id := id) (size := size) ⟨by omega, by omega⟩ ⟨by omega, by omega⟩ hno)
      rw [← HCR.out.2] at HR
      obtain ⟨hO1, ga, gc, cv, gs, tag, hx⟩ := HD1.out
      have HX := Lib.hid hx
      have x3 := hx.blk.at_ (i := 3) _ rfl
      have f3 := hx.blk.free 3
      have hpl := hx.blk.lt
      rw [hbb] at x3 hb0 hb1
      obtain ⟨hB2, M2⟩ := hx.birth (b + 1)
      obtain ⟨w2, hw2⟩ : ∃ w2, w1.setCell ⟨p, 3, none⟩ (.int .i64 (b + 1)) = w2 := ⟨_, rfl⟩
      rw [hw2] at hB2 M2
      have HX2 := Lib.hid hB2
      have N2 := Lib.hid M2
      have y3 := hB2.blk.at_ (i := 3) _ rfl
      have hpl2 := hB2.blk.lt
      have PUT := Lib.hid (dput_any (v := ⟨id, b + 1, size, false, 0, zeros64⟩) (show Dq F w2 p { D with births := b + 1 } from ⟨hO1.births _, _, _, _, _, _, hB2⟩) (by show D.vols.length ≤ 10000; omega) (by unfold zeros64; simp))
      have HBB := Lib.hid hbb
      have BD := build153
      unfold bp at PUT
      clear hno hO1 hx hB2 M2 hbb q q1 q2 q3 q4
      go_wp2_with fail
      refine PUT.out.mono ?_
      rintro e w3 ⟨rfl, hq, M3⟩
      obtain ⟨F', hD, hF'⟩ := hq HCR.out.1
      have HDD := Lib.hid hD
      have HFF := Lib.hid hF'
      have N3 := Lib.hid M3
      clear hq hD hF' M3
      go_wp2_with fail
      have hs : w.heap.size ≤ w2.heap.size := Nat.le_trans N1.out.size N2.out.size
      exact HR.out _ _ ⟨_, _, F', rfl, rfl, HDD.out, fun i hi => (HFF.out i hi).imp (fun z => z) (fun q => by omega), ((N1.out.mono (fun _ _ q => q.elim)).then_ N2.out (fun i _ q => q)).then_ N3.out (fun i _ q => q), rfl, by show b + 1 ≤ D.births + 1; rw [HBB.out]; exact Int.le_refl _, by show D.births ≤ b + 1; rw [HBB.out]; omega, rfl⟩
theorem DOk.len' (h : DOk D) : ∀ v ∈ D.vols, v.pl.length = 64 := h.len
theorem dpin_any (h : Dq F w p D) (hB : D.vols.length ≤ 1000) (id : Int) (is : Bool) :
    Calls Tryz.prog 64 #[bp p, .int .i64 id, .bool is] w fun e w' => StepD F w p D (pinS (toMS D) id is) e w' := by
  refine opq fun R HR => ?_
  have HD := Lib.hid h
  have HF := Lib.hid (dfind_any h (by omega) id)
  have hO0 := Lib.hid h.1
  clear h
  unfold bp at *
  go_enter Tryz.func64, Tryz.ntmps64
  go_wp2_with fail
  refine HF.out.mono ?_
  rintro e w1 ⟨r, rfl, hr, M⟩
  have N1 := Lib.hid M
  have HD1 := Lib.hid (HD.out.same M)
  clear M HF
  rcases hr with ⟨i, v, rfl, hv, hid⟩ | ⟨rfl, hno⟩
  · have HP := Lib.hid (pinD hO0.out hv is)
    have HV := Lib.hid hv
    subst hid
    rw [← HP.out.2] at HR
    obtain ⟨hO1, ga, gc, cv, gs, tag, hx⟩ := HD1.out
    have x1 := hx.blk.at_ (i := 1) _ rfl
    have hpl := hx.blk.lt
    obtain ⟨g, rfl, -, -, hR, hil, hc, hf⟩ := hx.cell hO1.len hv
    have c3 := hc 3 (by decide)
    have f3 := hf (i * 69 + 3)
    have hgl := hR.lt
    have PUT := Lib.hid (hx.put (v' := { v with pin := is }) (j := 3) (y := .bool is) hO1.len hv rfl (hO1.len v (List.mem_of_getElem? hv)) (by decide) (fun x hx hx2 => by
      unfold dvL
      rcases x with _ | _ | _ | _ | _ | x <;> first | rfl | exact absurd rfl hx) rfl)
    obtain ⟨n, hn⟩ : ∃ n, D.vols.length = n := ⟨_, rfl⟩
    rw [hn] at x1 hil hB
    clear hO1 hx hc hf hR hn hv
    go_wp2_with fail
    exact HR.out _ _ ⟨_, _, F, rfl, rfl, ⟨HP.out.1, _, _, _, _, _, PUT.out.1⟩, fun i => .inl, (N1.out.mono (fun _ _ q => q.elim)).then_ PUT.out.2 (fun i _ q => q), rfl, by show D.births ≤ D.births + 1; omega, Int.le_refl _, rfl⟩
  · have HC := Lib.hid (show pinS (toMS D) id is = (7, toMS D) by unfold pinS; rw [find_noneD hno])
    rw [HC.out] at HR
    clear hno
    go_wp2_with fail
    exact HR.out _ _ (StepD.no HD.out N1.out 7)
end
end Go.Proofs.YtlcepoagpocadaaGreatDoor
set_option maxRecDepth 100000
/- The document's pool: volumes are resized. -/
namespace Go.Proofs.YtlcepoagpocadaaGreatDoor
open Go Go.RowKit
section
variable {F : Nat → Prop} {w : World} {p : Nat} {D : DP}
theorem resize_err {id : Int} {i : Nat} {v : DV} (hO : DOk D) (hv : D.vols[i]? = some v) (hid : v.id = id) {size : Int} (q : size < 0 ∨ 64 < size) : resizeS (toMS D) id size = (1, toMS D) := by
  unfold resizeS
  rw [← hid, hO.find hv]
  dsimp only
  rw [if_pos q]
theorem getDD_set (l : List Nat) (k i : Nat) (hk : k < l.length) (c : Nat) : (l.set k c).getD i 0 = if i = k then c else l.getD i 0 := by
  rw [List.getD_eq_getElem?_getD, List.getD_eq_getElem?_getD]
  by_cases q : i = k
  · subst q; rw [if_pos rfl, List.getElem?_set_self hk]; rfl
  · rw [if_neg q, List.getElem?_set_ne (fun e => q e.symm)]
theorem list_getD_ext {l l' : List Nat} (h : l.length = l'.length) (e : ∀ i, l.getD i 0 = l'.getD i 0) : l = l' := by
  apply List.ext_getElem h
  intro i h1 h2
  have := e i
  rw [List.getD_eq_getElem?_getD, List.getD_eq_getElem?_getD, List.getElem?_eq_getElem h1, List.getElem?_eq_getElem h2] at this
  exact this
theorem dvL_other {v v' : DV} (h1 : v'.id = v.id) (h2 : v'.birth = v.birth) (h3 : v'.size = v.size) (h4 : v'.pin = v.pin) (h5 : v'.fr = v.fr) {k c : Nat} (hk : k < v.pl.length) (h6 : v'.pl = v.pl.set k c) :
    ∀ x, x ≠ 5 + k → x < 69 → (dvL v').getD x undef = (dvL v).getD x undef := by
  intro x hx hx2
  unfold dvL
  rw [h1, h2, h3, h4, h5, h6]
  by_cases q : x < 5
  · rw [List.getD_eq_getElem?_getD, List.getD_eq_getElem?_getD, List.getElem?_append_left (by simpa using q), List.getElem?_append_left (by simpa using q)]
  · rw [List.getD_eq_getElem?_getD, List.getD_eq_getElem?_getD, List.getElem?_append_right (by simp; omega), List.getElem?_append_right (by simp; omega), List.getElem?_map, List.getElem?_map, List.getElem?_set_ne (by simp; omega)]
theorem len_set {l : List DV} (h : ∀ v ∈ l, v.pl.length = 64) {i : Nat} {u : DV} (hu : u.pl.length = 64) : ∀ v ∈ l.set i u, v.pl.length = 64 := fun v hv => by
  rcases List.mem_or_eq_of_mem_set hv with hv | rfl
  · exact h v hv
  · exact hu
set_option maxHeartbeats 4000000 in
theorem dresize_any (h : Dq F w p D) (hB : D.vols.length ≤ 1000) (id size : Int) :
    Calls Tryz.prog 63 #[bp p, .int .i64 id, .int .i64 size] w fun e w' => StepD F w p D (resizeS (toMS D) id size) e w' := by
  refine opq fun R HR => ?_
  have HD := Lib.hid h
  have HF := Lib.hid (dfind_any h (by omega) id)
  have hO0 := Lib.hid h.1
  clear h
  unfold bp at *
  go_enter Tryz.func63, Tryz.ntmps63
  go_wp2_with fail
  refine HF.out.mono ?_
  rintro e w1 ⟨r, rfl, hr, M⟩
  have N1 := Lib.hid M
  have HD1 := Lib.hid (HD.out.same M)
  clear M HF
  rcases hr with ⟨i, v, rfl, hv, hid⟩ | ⟨rfl, hno⟩
  · have HV := Lib.hid hv
    by_cases q : size < 0 ∨ 64 < size
    · have HC := Lib.hid (resize_err hO0.out hv hid q)
      rw [HC.out] at HR
      clear hv hid
      go_wp2_with fail
      all_goals exact HR.out _ _ (StepD.no HD.out N1.out 1)
    · obtain ⟨s, rfl⟩ : ∃ s : Nat, size = (s : Int) := ⟨size.toNat, by omega⟩
      have hs64 : s ≤ 64 := by omega
      have HP := Lib.hid (resizeD hO0.out hv hs64)
      subst hid
      rw [← HP.out.2] at HR
      obtain ⟨hO1, ga, gc, cv, gs, tag, hx⟩ := HD1.out
      have HL := Lib.hid hO1.len
      have hvl := hO1.len v (List.mem_of_getElem? hv)
      have HVL := Lib.hid hvl
      have x1 := hx.blk.at_ (i := 1) _ rfl
      have hpl := hx.blk.lt
      obtain ⟨g, rfl, -, -, hR, hil, hc, hf⟩ := hx.cell hO1.len hv
      have c2 := hc 2 (by decide)
      have f2 := hf (i * 69 + 2)
      have hgl := hR.lt
      obtain ⟨hP1, hP2⟩ := hx.put (v' := { v with size := (s : Int) }) (j := 2) (y := .int .i64 (s : Int)) hO1.len hv rfl hvl (by decide) (fun x hx hx2 => by
        unfold dvL
        rcases x with _ | _ | _ | _ | _ | x <;> first | rfl | exact absurd rfl hx) rfl
      obtain ⟨w2, hw2⟩ : ∃ w2, w1.setCell ⟨g, i * 69 + 2, none⟩ (.int .i64 (s : Int)) = w2 := ⟨_, rfl⟩
      rw [hw2] at hP1 hP2
      have P1 := Lib.hid hP1
      have P2 := Lib.hid hP2
      obtain ⟨n, hn⟩ : ∃ n, D.vols.length = n := ⟨_, rfl⟩
      rw [hn] at x1 hil hB
      have HN := Lib.hid hn
      have HIL := Lib.hid hil
      clear hO1 hx hc hf hR hn hv hP1 hP2 hvl
      go_wp2_with fail
      have HXS := Lib.hid (show (D.vols.set i { v with size := (s : Int) }).length = n by rw [List.length_set]; exact HN.out)
      clear x1 c2 f2 hgl hpl hw2
      go_loopw [8] (fun kk wr => ∃ (k : Nat) (l : List Nat), s ≤ k ∧ k ≤ 64 ∧ kk = .int .i64 k ∧ l.length = 64 ∧ (∀ x, l.getD x 0 = if s ≤ x ∧ x < k then 0 else v.pl.getD x 0) ∧ Dx F wr p { D with vols := D.vols.set i { v with size := (s : Int), pl := l } } (some ⟨g, 0, none⟩) gc cv gs tag ∧ Mod F w2 wr) (fun kk _ => 64 - (intOf kk).toNat)
      case atStart => exact ⟨s, v.pl, Nat.le_refl _, hs64, rfl, HVL.out, fun x => by rw [if_neg (by omega)], P1.out, Mod.refl _ _⟩
      case round =>
        obtain ⟨k, l, hsk, hk, rfl, hll, hgl2, hXX, hM⟩ := hrel
        have HLL := Lib.hid hll
        have HG := Lib.hid hgl2
        have HX := Lib.hid hXX
        have J := Lib.hid hM
        have hlen := len_set HL.out (i := i) (u := { v with size := (s : Int), pl := l }) hll
        have hvi : (D.vols.set i { v with size := (s : Int), pl := l })[i]? = some { v with size := (s : Int), pl := l } := List.getElem?_set_self (by rw [HN.out]; exact hil)
        have x1 := hXX.blk.at_ (i := 1) _ rfl
        dsimp only at x1
        rw [List.length_set, HN.out] at x1
        have hpl := hXX.blk.lt
        obtain ⟨g2, e2, -, -, hR, -, hc, hf⟩ := hXX.cell hlen hvi
        obtain rfl : g = g2 := by injection e2 with e2; injection e2
        have hglt := hR.lt
        by_cases hlt : k < 64
        · have c5 := hc (5 + k) (by omega)
          rw [← Nat.add_assoc] at c5
          have f5 := hf (i * 69 + 5 + k)
          obtain ⟨hP1, hP2⟩ := hXX.put (v' := { v with size := (s : Int), pl := l.set k 0 }) (j := 5 + k) (y := .int .i64 0) hlen hvi rfl (by rw [List.length_set]; exact hll) (by omega) (dvL_other (v := { v with size := (s : Int), pl := l }) (v' := { v with size := (s : Int), pl := l.set k 0 }) (k := k) (c := 0) rfl rfl rfl rfl rfl (by show k < l.length; rw [hll]; exact hlt) rfl) (by
            rw [dvL_pl (by show k < (l.set k 0).length; rw [List.length_set, hll]; exact hlt)]
            rw [getDD_set _ _ _ (by rw [hll]; exact hlt), if_pos rfl]; rfl)
          rw [← Nat.add_assoc] at hP1 hP2
          have P3 := Lib.hid hP1
          have P4 := Lib.hid hP2
          clear hc hf hR hXX hM hgl2 hll hlen hvi hP1 hP2
          go_wp2_with fail
          go_roundw
          case rel => exact ⟨k + 1, l.set k 0, by omega, by omega, by go_num, by rw [List.length_set]; exact HLL.out, fun x => by
            rw [getDD_set _ _ _ (by rw [HLL.out]; exact hlt), HG.out]
            by_cases q : x = k
            · rw [if_pos q, if_pos (by omega)]
            · rw [if_neg q]
              by_cases r : s ≤ x ∧ x < k
              · rw [if_pos r, if_pos (by omega)]
              · rw [if_neg r, if_neg (by omega)], by
            have := P3.out
            dsimp only at this
            rw [List.set_set] at this
            exact this, J.out.then_ P4.out (fun i _ q => q)⟩
          case measure => simp [intOf]; omega
        · obtain rfl : k = 64 := by omega
          have hle : l = cutP s v.pl := list_getD_ext (by rw [hll, cutP_len]; exact HVL.out.symm) (fun x => by
            rw [hgl2, cutP_get]
            by_cases q : x < s
            · rw [if_neg (by omega), if_pos q]
            · rw [if_neg q]
              by_cases r : x < 64
              · rw [if_pos (by omega)]
              · rw [if_neg (by omega), List.getD_eq_getElem?_getD, List.getElem?_eq_none (by rw [HVL.out]; omega)]; rfl)
          subst hle
          clear hc hf hR hXX hM hgl2 hll hlen hvi
          go_wp2_with fail
          exact HR.out _ _ ⟨_, _, F, rfl, rfl, ⟨HP.out.1, _, _, _, _, _, HX.out⟩, fun i => .inl, ((N1.out.mono (fun _ _ q => q.elim)).then_ P2.out (fun i _ q => q)).then_ J.out (fun i _ q => q), rfl, by show D.births ≤ D.births + 1; omega, Int.le_refl _, rfl⟩
  · have HC := Lib.hid (show resizeS (toMS D) id size = (7, toMS D) by unfold resizeS; rw [find_noneD hno])
    rw [HC.out] at HR
    clear hno
    go_wp2_with fail
    exact HR.out _ _ (StepD.no HD.out N1.out 7)
end
end Go.Proofs.YtlcepoagpocadaaGreatDoor
set_option maxRecDepth 100000
/- The document's pool: a snapshot is taken, a volume is deleted. -/
namespace Go.Proofs.YtlcepoagpocadaaGreatDoor
open Go Go.RowKit
theorem mod_setCells (b : Nat) : ∀ (vs : List Value) (o : Nat) (w0 w : World), Mod (fun i => i = b) w0 w → Mod (fun i => i = b) w0 (w.setCells b o vs)
  | [], _, _, _, h => h
  | v :: r, o, w0, w, h => by
    rw [World.setCells]
    exact mod_setCells b r (o + 1) w0 _ (h.setCell (p := ⟨b, o, none⟩) (fun _ => rfl) v)
theorem blk_store {w : World} {E : Nat} {X0 X : Array Value} (h : Blk w E X0) (hs : X0.size = X.size) : Blk (w.setCells E 0 X.toList) E X := by
  have M := mod_setCells E X.toList 0 w w (Mod.refl _ _)
  refine ⟨Nat.lt_of_lt_of_le h.lt M.size, fun i => ?_, fun i => ?_⟩
  · by_cases q : i < X.size
    · have := World.cell?_setCells_in E X.toList 0 w (fun j hj => by
        rw [Nat.zero_add, h.cell j, Array.getElem?_eq_getElem (by rw [hs]; simpa using hj)]; rfl) i (by simpa using q)
      rw [Nat.zero_add] at this
      rw [this, Array.getElem?_eq_getElem q]; simp
    · rw [World.cell?_setCells_out E X.toList 0 w _ (fun _ _ => Or.inr (by simp; omega)), h.cell i, Array.getElem?_eq_none (by omega), Array.getElem?_eq_none (by omega)]
  · rw [World.frozen?_setCells]; exact h.free i
theorem wpList_store153 {ops : Array Oper} {rest : List Oper} {op : Oper} {a : Act} {w : World} {Q : Exit → Act → World → Prop} (hgd : op.guard = none) (x y : Operand) (ho : op.op = .store 153 x y)
    (E : Nat) (X0 X : Array Value) (hx : a.eval x = .pointer (some ⟨E, 0, none⟩)) (hy : a.eval y = .agg X) (hB : Blk w E X0) (h0 : X0.size = 69) (hX : X.size = 69) (h1 : X.all (·.oneCell') = true)
    (h : ∀ w', Blk w' E X → Mod (fun i => i = E) w w' → wpList Tryz.prog ops Q rest (a.put op.dst undef) w') : wpList Tryz.prog ops Q (op :: rest) a w := by
  refine wpList_store_mid hgd 153 x y ho E 0 X hx hy (fun j hj => ⟨?_, ?_⟩) (by rw [hX]; rfl) h1 (h _ (blk_store hB (by rw [h0, hX])) (mod_setCells E X.toList 0 w w (Mod.refl _ _)))
  · rw [Nat.zero_add, hB.cell j, Array.getElem?_eq_getElem (by omega)]; rfl
  · rw [Nat.zero_add]; exact hB.free j
theorem dvA_one {v : DV} {X : Array Value} (hX : (dvL v).toArray = X) : X.all (·.oneCell') = true := by
  subst hX
  refine Array.all_eq_true_iff_forall_mem.2 (fun u hu => ?_)
  exact dv_one (l := [v]) u (by simpa using hu)
theorem blk_range {w : World} {E : Nat} {X : Array Value} (h : Blk w E X) {v : DV} (hX : (dvL v).toArray = X) : w.rangeAt E 0 (dvL v) := fun j u hu => by
  rw [Nat.zero_add, h.cell j, ← hX, List.getElem?_toArray]; exact hu
section
variable {F : Nat → Prop} {w : World} {p : Nat} {D : DP}
set_option maxHeartbeats 8000000 in
theorem dsnap_any (h : Dq F w p D) (hB : D.vols.length ≤ 1000) (hb : 0 ≤ D.births ∧ D.births ≤ 100000) (fr tt : Int) :
    Calls Tryz.prog 62 #[bp p, .int .i64 fr, .int .i64 tt] w fun e w' => StepD F w p D (snapS (toMS D) fr tt 0 0) e w' := by
  refine opq fun R HR => ?_
  have HD := Lib.hid h
  have HF := Lib.hid (dfind_any h (by omega) fr)
  have hO0 := Lib.hid h.1
  obtain ⟨hb0, hb1⟩ := hb
  clear h
  unfold bp at *
  go_enter Tryz.func62, Tryz.ntmps62
  go_wp2_with fail
  refine HF.out.mono ?_
  rintro e w1 ⟨r, rfl, hr, M⟩
  have N1 := Lib.hid M
  have HD1 := Lib.hid (HD.out.same M)
  have HF2 := Lib.hid (dfind_any HD1.out (by omega) tt)
  clear M HF
  unfold bp at HF2
  rcases hr with ⟨i, v, rfl, hv, hid⟩ | ⟨rfl, hno⟩
  · have HV := Lib.hid hv
    subst hid
    have HFI := Lib.hid (hO0.out.find hv)
    by_cases q : tt < 1 ∨ 16 < tt
    · have HC := Lib.hid (show snapS (toMS D) v.id tt 0 0 = (1, toMS D) by unfold snapS; rw [HFI.out]; dsimp only; rw [if_pos q])
      rw [HC.out] at HR
      clear hv
      go_wp2_with fail
      all_goals exact HR.out _ _ (StepD.no HD.out N1.out 1)
    · have q1 : ¬ tt < 1 := fun r => q (.inl r)
      have q2 : ¬ 16 < tt := fun r => q (.inr r)
      clear hv
      go_wp2_with fail
      refine HF2.out.mono ?_
      rintro e w2 ⟨r, rfl, hr, M⟩
      have N2 := Lib.hid (N1.out.same M)
      have HD2 := Lib.hid (HD1.out.same M)
      clear M HF2
      rcases hr with ⟨i2, v2, rfl, hv2, hid2⟩ | ⟨rfl, hno⟩
      · have HC := Lib.hid (show snapS (toMS D) v.id tt 0 0 = (8, toMS D) by
          unfold snapS; rw [HFI.out]; dsimp only; rw [if_neg q, ← hid2, hO0.out.find hv2])
        rw [HC.out] at HR
        clear hv2 hid2 q
        go_wp2_with fail
        exact HR.out _ _ (StepD.no HD.out N2.out 8)
      · have HCR := Lib.hid (snapD (b := D.births + 1) hO0.out HV.out ⟨by omega, by omega⟩ hno)
        rw [← HCR.out.2] at HR
        obtain ⟨b, hbb⟩ : ∃ b, D.births = b := ⟨_, rfl⟩
        have HBB := Lib.hid hbb
        obtain ⟨hO1, ga, gc, cv, gs, tag, hx⟩ := HD2.out
        have hvl := hO1.len v (List.mem_of_getElem? HV.out)
        have HVL := Lib.hid hvl
        have x3 := hx.blk.at_ (i := 3) _ rfl
        have f3 := hx.blk.free 3
        have hpl := hx.blk.lt
        rw [hbb] at x3 hb0 hb1 HCR HR
        obtain ⟨hB2, M2⟩ := hx.birth (b + 1)
        obtain ⟨w3, hw3⟩ : ∃ w3, w2.setCell ⟨p, 3, none⟩ (.int .i64 (b + 1)) = w3 := ⟨_, rfl⟩
        rw [hw3] at hB2 M2
        have HX2 := Lib.hid hB2
        have N3 := Lib.hid M2
        clear hno hO1 hx hB2 M2 hbb q q1 q2 hvl
        go_upto_region 9 with fail
        clear x3 f3 hw3 hpl
        have hlen : ∀ u ∈ ({ D with births := b + 1 } : DP).vols, u.pl.length = 64 := hO0.out.len
        have y1 := HX2.out.blk.at_ (i := 1) _ rfl
        have y3 := HX2.out.blk.at_ (i := 3) _ rfl
        have hpl2 := HX2.out.blk.lt
        obtain ⟨g, rfl, -, -, hR, hil, hc, hf⟩ := HX2.out.cell hlen HV.out
        have L2 := Lib.hid (range153 HVL.out hc)
        have hgl := hR.lt
        obtain ⟨Y, hY⟩ : ∃ Y, (dvL v).toArray = Y := ⟨_, rfl⟩
        have HY := Lib.hid hY
        have HDB := Lib.hid (show ({ D with births := b + 1 } : DP).vols = D.vols from rfl)
        rw [HDB.out] at y1 hil
        obtain ⟨n, hn⟩ : ∃ n, D.vols.length = n := ⟨_, rfl⟩
        rw [hn] at y1 hil hB
        have HN := Lib.hid hn
        clear hlen hR hc hf hY hn
        go_upto_region 10 with (first | (refine wpList_load153 (by rfl) (.tmp 36) (by rfl) g (i * 69) (by rfl) v HVL.out (L2.out) Y HY.out ?_) | (refine wpList_store153 (by rfl) (.tmp 8) (.tmp 37) (by rfl) w3.heap.size _ Y (by rfl) (by rfl) (Blk.new w3 _ 153) (by rfl) (dvA_len HVL.out HY.out) (dvA_one HY.out) ?_; intro w4 hB4 hM4))
        obtain ⟨E, hE⟩ : ∃ E, w3.heap.size = E := ⟨_, rfl⟩
        have J4 := Lib.hid (show Same w3 w4 from ((Mod.refl _ _).alloc _).then_ hM4 (fun j hj q => by omega))
        rw [hE] at hB4 ⊢
        have HE := Lib.hid hE
        have BE := Lib.hid hB4
        have X4 := Lib.hid (HX2.out.same J4.out)
        have z3 := X4.out.blk.at_ (i := 3) _ rfl
        have hpl4 := X4.out.blk.lt
        have hEl := hB4.lt
        have cY : ∀ j u, (dvL v)[j]? = some u → w4.cell? ⟨E, j, none⟩ = some u := fun j u hu => by
          rw [hB4.cell j, ← HY.out, List.getElem?_toArray]; exact hu
        have e0 := cY 0 _ rfl
        have e1 := cY 1 _ rfl
        have e3 := cY 3 _ rfl
        have e4 := cY 4 _ rfl
        have g0 := hB4.free 0
        have g1 := hB4.free 1
        have g3 := hB4.free 3
        have g4 := hB4.free 4
        obtain ⟨w5, hw5⟩ : ∃ w5, (((w4.setCell ⟨E, 0, none⟩ (.int .i64 tt)).setCell ⟨E, 1, none⟩ (.int .i64 (b + 1))).setCell ⟨E, 4, none⟩ (.int .i64 v.id)).setCell ⟨E, 3, none⟩ (.bool false) = w5 := ⟨_, rfl⟩
        obtain ⟨V, hV⟩ : ∃ V : DV, (⟨tt, b + 1, v.size, false, v.id, v.pl⟩ : DV) = V := ⟨_, rfl⟩
        have HVV := Lib.hid hV
        obtain ⟨X, hX⟩ : ∃ X, (dvL V).toArray = X := ⟨_, rfl⟩
        have B5 := Lib.hid (show Blk w5 E X by
          have := ((((BE.out.set 0 (.int .i64 tt)).set 1 (.int .i64 (b + 1))).set 4 (.int .i64 v.id)).set 3 (.bool false))
          rw [hw5, ← HY.out] at this
          simp only [List.setIfInBounds_toArray] at this
          rw [← hX, ← hV]
          exact this)
        have J5 := Lib.hid (show Same w3 w5 by
          rw [← hw5]
          exact J4.out.then_ (((((Mod.refl (fun i => i = E) w4).setCell (p := ⟨E, 0, none⟩) (fun _ => rfl) _).setCell (p := ⟨E, 1, none⟩) (fun _ => rfl) _).setCell (p := ⟨E, 4, none⟩) (fun _ => rfl) _).setCell (p := ⟨E, 3, none⟩) (fun _ => rfl) _) (fun j hj q => by have := HE.out; omega))
        have HXX := Lib.hid hX
        have HVL2 := Lib.hid (show V.pl.length = 64 by rw [← hV]; exact HVL.out)
        have R5 := Lib.hid (blk_range B5.out hX)
        have PUT := Lib.hid (dput_any (v := V) (show Dq F w5 p { D with births := b + 1 } from ⟨hO0.out.births _, _, _, _, _, _, HX2.out.same J5.out⟩) (by show D.vols.length ≤ 10000; rw [HN.out]; omega) HVL2.out)
        have hCR := HCR.out.1
        rw [hV] at hCR HR
        have HCV := Lib.hid hCR
        unfold bp dvV at PUT
        rw [hX] at PUT
        clear y1 y3 hpl2 hil hgl hB4 hM4 cY hV hX hCR hE
        go_upto_region 14 with fail
        try rw [hw5]
        clear hw5 e0 e1 e3 e4 g0 g1 g3 g4 hEl z3 hpl4
        have hEl5 := B5.out.lt
        go_wp2_with (first | (refine wpList_load153 (by rfl) (.tmp 8) (by rfl) E 0 (by rfl) V HVL2.out R5.out X HXX.out ?_))
        refine PUT.out.mono ?_
        rintro e w6 ⟨rfl, hq, M6⟩
        obtain ⟨F', hD, hF'⟩ := hq HCV.out
        have HDD := Lib.hid hD
        have HFF := Lib.hid hF'
        have N6 := Lib.hid M6
        clear hq hD hF' M6
        go_wp2_with fail
        have hs : w.heap.size ≤ w5.heap.size := Nat.le_trans (Nat.le_trans N2.out.size N3.out.size) J5.out.size
        exact HR.out _ _ ⟨_, _, F', rfl, rfl, HDD.out, fun i hi => (HFF.out i hi).imp (fun z => z) (fun q => by omega), (((N2.out.mono (fun _ _ q => q.elim)).then_ N3.out (fun i _ q => q)).same J5.out).then_ N6.out (fun i _ q => q), rfl, by show b + 1 ≤ D.births + 1; rw [HBB.out]; exact Int.le_refl _, by show D.births ≤ b + 1; rw [HBB.out]; omega, rfl⟩
  · have HC := Lib.hid (show snapS (toMS D) fr tt 0 0 = (7, toMS D) by unfold snapS; rw [find_noneD hno])
    rw [HC.out] at HR
    clear hno
    go_wp2_with fail
    exact HR.out _ _ (StepD.no HD.out N1.out 7)
end
end Go.Proofs.YtlcepoagpocadaaGreatDoor
set_option maxRecDepth 100000
/- The document's pool: a volume is deleted. -/
namespace Go.Proofs.YtlcepoagpocadaaGreatDoor
open Go Go.RowKit
theorem dv_at {w : World} {g : Nat} {l qs : List DV} {s : Nat} (hR : RowV w g (l.length * 69) (dvF l)) (hl : ∀ v ∈ l, v.pl.length = 64) (hq : ∀ a, a < qs.length → l[s + a]? = qs[a]?) (hlq : ∀ v ∈ qs, v.pl.length = 64) : DvAt w ⟨g, s * 69, none⟩ qs := fun j u hj => by
  have hjl := (List.getElem?_eq_some_iff.1 hj).1
  rw [dvF_len hlq] at hjl
  obtain ⟨a, b, hb, rfl⟩ : ∃ a b, b < 69 ∧ j = a * 69 + b := ⟨j / 69, j % 69, Nat.mod_lt _ (by omega), by omega⟩
  have ha : a < qs.length := by omega
  have hqa : qs[a]? = some qs[a] := List.getElem?_eq_getElem ha
  rw [dv_get hlq hqa hb] at hj
  have hla := hq a ha
  rw [hqa] at hla
  have hsl := (List.getElem?_eq_some_iff.1 hla).1
  rw [Addr.add_mid, show s * 69 + (a * 69 + b) = (s + a) * 69 + b by omega, hR.cell _ (by omega), dvF_at hl hla hb, List.getD_eq_getElem?_getD, hj]
  rfl
theorem wpList_append_dv0 {w : World} {ops : Array Oper} {rest : List Oper} {o : Oper} {a : Act} {Q : Exit → Act → World → Prop} (hgd : Region.wanted o (yielded ops a.tmps) = true) (s x : Operand)
    (ho : o.op = .call { callee := .builtin .append, args := #[s, x], argTypes := #[56, 56] })
    (B : Nat) (v : Value) (ps : List DV) (n : Nat) (hs : a.eval s = v) (hown : w.ownsRow B 153 69 v n (ps.flatMap dvL))
    (src : Addr) (m c : Nat) (qs : List DV) (hm : qs.length = m) (hx : a.eval x = .slice (some src) m c) (hq : DvAt w src qs) (hl : ∀ v ∈ qs, v.pl.length = 64)
    (h63 : n + m ≤ 100000) (hbase : B ≤ w.heap.size)
    (h : ∀ v' w', w'.ownsRow B 153 69 v' (n + m) ((ps ++ qs).flatMap dvL) → Mod (fun i => v.ownBlock = some i) w w' → wpList Tryz.prog ops Q rest (a.put o.dst v') w') : wpList Tryz.prog ops Q (o :: rest) a w := by
  refine wpList_step fun K hK => ?_
  rw [if_pos hgd]
  subst hm
  obtain ⟨i0, hi0, hz0, hz1, hz2⟩ := info_parts info153
  refine wp_append_own w s x 56 ho B 153 i0 _ 69 552 Tryz.underlying56 hi0 hz0 hz1 hz2 rfl (by decide) v n (ps.flatMap dvL) hs hown src qs.length c (qs.flatMap dvL) hx (by rw [dvF_len hl]) hq dv_one (by unfold maxLen; omega) (by omega) hbase (fun v' w' h1 h2 _ => ?_)
  refine hK _ _ (h v' w' ?_ ((Mod.refl _ w).grown h2 (fun k hk _ => hk.symm ▸ rfl)))
  rw [List.flatMap_append]; exact h1
section
variable {F : Nat → Prop} {w : World} {p : Nat} {D : DP}
set_option maxHeartbeats 8000000 in
theorem ddelete_any (h : Dq F w p D) (hB : D.vols.length ≤ 1000) (id : Int) :
    Calls Tryz.prog 61 #[bp p, .int .i64 id] w fun e w' => StepD F w p D (deleteS (toMS D) id) e w' := by
  refine opq fun R HR => ?_
  have HD := Lib.hid h
  have HF := Lib.hid (dfind_any h (by omega) id)
  have hO0 := Lib.hid h.1
  clear h
  unfold bp at *
  go_enter Tryz.func61, Tryz.ntmps61
  go_wp2_with fail
  refine HF.out.mono ?_
  rintro e w1 ⟨r, rfl, hr, M⟩
  have N1 := Lib.hid M
  have HD1 := Lib.hid (HD.out.same M)
  clear M HF
  rcases hr with ⟨i, v, rfl, hv, hid⟩ | ⟨rfl, hno⟩
  · have HP := Lib.hid (deleteD hO0.out hv)
    have HV := Lib.hid hv
    subst hid
    rw [← HP.out.2] at HR
    obtain ⟨hO1, ga, gc, cv, gs, tag, hx⟩ := HD1.out
    have HX := Lib.hid hx
    have HL := Lib.hid hO1.len
    have x1 := hx.blk.at_ (i := 1) _ rfl
    have hpl := hx.blk.lt
    have hcp := hx.cp
    obtain ⟨g, rfl, -, -, hR, hil, hc, hf⟩ := hx.cell hO1.len hv
    have HR1 := Lib.hid hR
    have hgl := hR.lt
    obtain ⟨n, hn⟩ : ∃ n, D.vols.length = n := ⟨_, rfl⟩
    rw [hn] at x1 hil hB hcp
    have HN := Lib.hid hn
    have OE := Lib.hid (show (w1.alloc (.cells #[] 153)).ownsRow w1.heap.size 153 69 (.slice (some ⟨w1.heap.size, 0, none⟩) 0 0) 0 (([] : List DV).flatMap dvL) from ⟨rfl, .inr ⟨_, 0, #[], rfl, Nat.le_refl _, heap_new _ _, Nat.le_refl _, by unfold maxLen; omega, rfl, rfl⟩⟩)
    have HLT := Lib.hid (show ∀ u ∈ D.vols.take i, u.pl.length = 64 from fun u hu => hO1.len u (List.mem_of_mem_take hu))
    have HLD := Lib.hid (show ∀ u ∈ D.vols.drop (i + 1), u.pl.length = 64 from fun u hu => hO1.len u (List.mem_of_mem_drop hu))
    have HTL := Lib.hid (show (D.vols.take i).length = i by rw [List.length_take, hn]; omega)
    have HDL := Lib.hid (show (D.vols.drop (i + 1)).length = n - (i + 1) by rw [List.length_drop, hn])
    have AT1 := Lib.hid (dv_at (s := 0) (qs := D.vols.take i) (hR.alloc (.cells #[] 153)) hO1.len (fun a ha => by rw [HTL.out] at ha; rw [Nat.zero_add, List.getElem?_take_of_lt ha]) HLT.out)
    rw [Nat.zero_mul] at AT1
    clear hO1 hx hc hf hR hn hv
    go_upto_region 5 with (at_builtin; refine wpList_append_dv0 (by rfl) (.tmp 12) (.tmp 18) rfl w1.heap.size _ [] 0 rfl OE.out ⟨g, 0, none⟩ i gc (D.vols.take i) HTL.out rfl AT1.out HLT.out (by omega) (by simp) ?_; intro va w2 hownA hMA)
    have KA := Lib.hid hownA
    have JA := Lib.hid (show Same w1 w2 from ((Mod.refl _ _).alloc _).then_ hMA (fun j hj q => by have := owns_ge OE.out j q; omega))
    have XA := Lib.hid (HX.out.same JA.out)
    have y1 := XA.out.blk.at_ (i := 1) _ rfl
    have yf := XA.out.blk.free 1
    have hplA := XA.out.blk.lt
    rw [HN.out] at y1
    have HR2 := Lib.hid (HR1.out.mod JA.out (fun q => q))
    have hglA := HR2.out.lt
    have AT2 := Lib.hid (dv_at (s := i + 1) (qs := D.vols.drop (i + 1)) HR2.out HL.out (fun a ha => by rw [List.getElem?_drop]) HLD.out)
    have hsz := JA.out.size
    have FIN := Lib.hid (show ∀ (sv : Value) (W : World) (mm : Nat), (D.vols.eraseIdx i).length = mm → W.ownsRow w1.heap.size 153 69 sv mm ((D.vols.eraseIdx i).flatMap dvL) → Same w1 W →
        R (.returned (.int .i64 0)) (W.setCell ⟨p, 1, none⟩ sv) from fun sv W mm hmm hown hM => by
      have hszW := hM.size
      have hFl : ∀ i, F i → i < w1.heap.size := HX.out.fl
      obtain ⟨aa, cc, rfl⟩ := owns_slice hown
      have key : (D.vols.eraseIdx i).length ≤ cc ∧ (0 < (D.vols.eraseIdx i).length → ∃ g, aa = some ⟨g, 0, none⟩ ∧ RowV W g ((D.vols.eraseIdx i).length * 69) (dvF (D.vols.eraseIdx i)) ∧ ¬ F g ∧ (F g ∨ (w1.heap.size ≤ g ∧ g < W.heap.size))) := by
        rw [hmm]
        by_cases hp : 0 < mm
        · obtain ⟨g', cap', e', hb', hcp', hR'⟩ := RowV.of_owns hown hp
          injection e' with e1 _ ec
          rw [← ec] at hcp'
          exact ⟨hcp', fun _ => ⟨g', e1, hR', fun q => by have := hFl _ q; omega, .inr ⟨hb', hR'.lt⟩⟩⟩
        · exact ⟨by omega, fun q => absurd q hp⟩
      obtain ⟨tag', hD, hMod⟩ := (HX.out.same hM).vols_new (F' := fun i => F i ∨ (w1.heap.size ≤ i ∧ i < W.heap.size)) (fun i => .inl) (fun i hi => hi.elim (fun q => by have := hFl i q; omega) (fun q => q.2)) (ga' := aa) (gc' := cc) (l := D.vols.eraseIdx i) key.1 key.2
      rw [hmm] at hD hMod
      have hs0 := N1.out.size
      exact HR.out _ _ ⟨_, _, _, rfl, rfl, ⟨HP.out.1, _, _, _, _, _, hD⟩, fun i hi => hi.elim .inl (fun q => .inr (by omega)), ((N1.out.same hM).mono (fun _ _ q => q.elim)).then_ hMod (fun i _ q => q), rfl, by show D.births ≤ D.births + 1; omega, Int.le_refl _, rfl⟩)
    have HER := Lib.hid (List.eraseIdx_eq_take_drop_succ D.vols i)
    clear hownA hMA x1 hpl hgl
    have KB := Lib.hid (show w2.ownsRow w1.heap.size 153 69 va i ((D.vols.take i).flatMap dvL) by
      have h := KA.out
      rw [List.nil_append, Nat.zero_add] at h
      exact h)
    have hb1 : i + (n - (i + 1)) ≤ 100000 := by omega
    clear KA
    by_cases hz : gc = i + 1
    · obtain rfl : n = i + 1 := by omega
      have HZ := Lib.hid (show D.vols.drop (i + 1) = [] from List.length_eq_zero_iff.1 (by rw [HDL.out]; omega))
      subst hz
      rw [Nat.sub_self] at hb1
      go_wp2_with (at_builtin; refine wpList_append_dv0 (by rfl) (.tmp 21) (.tmp 28) (by rfl) w1.heap.size va (D.vols.take i) i (by rfl) KB.out ⟨g, 0, none⟩ 0 0 [] rfl (by rfl) (fun j u hj => by simp at hj) (fun u hu => by cases hu) hb1 hsz ?_; intro vb w3 hownB hMB; have KC := Lib.hid hownB; have JC := Lib.hid (show Same w1 w3 from JA.out.then_ hMB (fun j hj q => by have := owns_ge KB.out j q; omega)); have XC := Lib.hid (HX.out.same JC.out); have y1c := XC.out.blk.at_ (i := 1) _ rfl; have yfc := XC.out.blk.free 1; have hplC := XC.out.blk.lt; obtain ⟨ab, cb, rfl⟩ := owns_slice hownB; clear hownB hMB y1 yf hplA hglA)
      exact FIN.out _ w3 (i + 0) (by rw [HER.out, List.length_append, HTL.out, HZ.out]; rfl) (by rw [HER.out, HZ.out]; exact KC.out) JC.out
    · have hz2 : 0 < gc - (i + 1) := by omega
      go_wp2_with (at_builtin; refine wpList_append_dv0 (by rfl) (.tmp 21) (.tmp 28) (by rfl) w1.heap.size va (D.vols.take i) i (by rfl) KB.out ⟨g, (i + 1) * 69, none⟩ (n - (i + 1)) (gc - (i + 1)) (D.vols.drop (i + 1)) HDL.out (by rfl) AT2.out HLD.out hb1 hsz ?_; intro vb w3 hownB hMB; have KC := Lib.hid hownB; have JC := Lib.hid (show Same w1 w3 from JA.out.then_ hMB (fun j hj q => by have := owns_ge KB.out j q; omega)); have XC := Lib.hid (HX.out.same JC.out); have y1c := XC.out.blk.at_ (i := 1) _ rfl; have yfc := XC.out.blk.free 1; have hplC := XC.out.blk.lt; obtain ⟨ab, cb, rfl⟩ := owns_slice hownB; clear hownB hMB y1 yf hplA hglA)
      exact FIN.out _ w3 (i + (n - (i + 1))) (by rw [HER.out, List.length_append, HTL.out, HDL.out]) (by rw [HER.out]; exact KC.out) JC.out
  · have HC := Lib.hid (show deleteS (toMS D) id = (7, toMS D) by unfold deleteS; rw [find_noneD hno])
    rw [HC.out] at HR
    clear hno
    go_wp2_with fail
    exact HR.out _ _ (StepD.no HD.out N1.out 7)
end
end Go.Proofs.YtlcepoagpocadaaGreatDoor
