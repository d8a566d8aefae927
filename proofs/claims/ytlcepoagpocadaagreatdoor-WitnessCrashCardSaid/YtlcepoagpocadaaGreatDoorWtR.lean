import Derived.Test.YtlcepoagpocadaaGreatDoorWtO
set_option linter.unusedSimpArgs false
set_option linter.unusedVariables false
set_option maxRecDepth 100000
/- Rows of events. -/
namespace Go.Proofs.YtlcepoagpocadaaGreatDoor
open Go Go.RowKit
theorem info34 : (Tryz.prog.info? 34).map (fun i => (i.zero, i.size, i.bytes)) = some (some (.agg #[.nilIface, .int .i64 0, .string ⟨#[]⟩, .slice none 0 0, .int .i64 0, .slice none 0 0]), 6, 96) := by kernel_rfl
abbrev EvV := Ev × Value × Value
def evL (p : EvV) : List Value := [ordW p.1.o, .int .i64 p.1.er, .string ⟨p.1.d.toArray⟩, p.2.1, .int .i64 p.1.gen, p.2.2]
theorem evL_C (p : EvV) : (evC p.1.o p.1.er p.1.d p.2.1 p.1.gen p.2.2) = (evL p).toArray := rfl
/-- An event's rows in memory: they lie in another block than the row of events itself. -/
structure EvIn (own : Option Nat) (w : World) (p : EvV) : Prop where
  tv : ∃ a c, p.2.1 = .slice a p.1.vols.length c ∧ (0 < p.1.vols.length → ∃ g, a = some ⟨g, 0, none⟩ ∧ own ≠ some g ∧ RowV w g (p.1.vols.length * 5) (fun i => (p.1.vols.flatMap infoC).getD i undef))
  tx : ∃ a c, p.2.2 = .slice a p.1.dump.length c ∧ (0 < p.1.dump.length → ∃ g, a = some ⟨g, 0, none⟩ ∧ own ≠ some g ∧ RowV w g p.1.dump.length (txF p.1.dump))
theorem EvIn.tvs {own : Option Nat} {w : World} {p : EvV} (h : EvIn own w p) : TvS w p.2.1 p.1.vols := by
  obtain ⟨a, c, e, k⟩ := h.tv
  exact ⟨⟨a, c, e, fun q => let ⟨g, e, _, r⟩ := k q; ⟨g, e, r⟩⟩⟩
theorem EvIn.txs {own : Option Nat} {w : World} {p : EvV} (h : EvIn own w p) : TxS w p.2.2 p.1.dump := by
  obtain ⟨a, c, e, k⟩ := h.tx
  exact ⟨⟨a, c, e, fun q => let ⟨g, e, _, r⟩ := k q; ⟨g, e, r⟩⟩⟩
theorem EvIn.turn {own own' : Option Nat} {w w' : World} {p : EvV} (h : EvIn own w p) (M : Mod (fun i => own = some i) w w') (ho : ∀ g, own' = some g → own = some g ∨ w.heap.size ≤ g) : EvIn own' w' p := by
  obtain ⟨⟨a, c, e, k⟩, ⟨a2, c2, e2, k2⟩⟩ := h
  refine ⟨⟨a, c, e, fun q => ?_⟩, ⟨a2, c2, e2, fun q => ?_⟩⟩
  · obtain ⟨g, h1, h2, r⟩ := k q
    exact ⟨g, h1, fun x => (ho g x).elim h2 (fun y => by have := r.lt; omega), r.mod M h2⟩
  · obtain ⟨g, h1, h2, r⟩ := k2 q
    exact ⟨g, h1, fun x => (ho g x).elim h2 (fun y => by have := r.lt; omega), r.mod M h2⟩
theorem EvIn.same {own : Option Nat} {w w' : World} {p : EvV} (h : EvIn own w p) (M : Same w w') : EvIn own w' p := h.turn (M.mono (fun _ _ q => q.elim)) (fun _ => .inl)
theorem EvIn.fresh {own own' : Option Nat} {w : World} {p : EvV} (h : EvIn own w p) (ho : ∀ g, own' = some g → w.heap.size ≤ g) : EvIn own' w p := h.turn (Mod.refl _ _) (fun g q => .inr (ho g q))
/-- An event that tells nothing. -/
def evN (o : OW) (gen : Int) : EvV := (evZ o gen, .slice none 0 0, .slice none 0 0)
theorem evN_in (own : Option Nat) (w : World) (o : OW) (gen : Int) : EvIn own w (evN o gen) := ⟨⟨none, 0, rfl, fun h => absurd h (Nat.lt_irrefl 0)⟩, ⟨none, 0, rfl, fun h => absurd h (Nat.lt_irrefl 0)⟩⟩
theorem ev_get {l : List EvV} {j : Nat} {p : EvV} (h : l[j]? = some p) {i : Nat} (hi : i < 6) : (l.flatMap evL)[j * 6 + i]? = (evL p)[i]? := by
  induction l generalizing j with
  | nil => simp at h
  | cons u l ih =>
    rw [List.flatMap_cons]
    cases j with
    | zero =>
      have : u = p := by simpa using h
      subst this
      rw [List.getElem?_append_left (by simp [evL]; omega)]; simp
    | succ j =>
      rw [List.getElem?_append_right (by simp [evL]; omega), show (j + 1) * 6 + i - (evL u).length = j * 6 + i by simp [evL]; omega]
      exact ih (by simpa using h)
theorem ev_len (l : List EvV) : (l.flatMap evL).length = l.length * 6 := by
  induction l with
  | nil => rfl
  | cons u l ih => rw [List.flatMap_cons, List.length_append, ih, List.length_cons]; simp [evL]; omega
theorem ev_one {own : Option Nat} {w : World} {l : List EvV} (h : ∀ p ∈ l, EvIn own w p) : ∀ u ∈ l.flatMap evL, u.oneCell' = true := fun u hu => by
  obtain ⟨p, hp, hu⟩ := List.mem_flatMap.1 hu
  obtain ⟨⟨a1, c1, e1, _⟩, ⟨a2, c2, e2, _⟩⟩ := h p hp
  unfold evL at hu
  rw [e1, e2] at hu
  simp only [List.mem_cons, List.not_mem_nil, or_false] at hu
  rcases hu with rfl | rfl | rfl | rfl | rfl | rfl <;> rfl
/-- A row of events that is one's own. -/
structure EvOwn (B : Nat) (w : World) (v : Value) (ps : List EvV) : Prop where
  own : w.ownsRow B 34 6 v ps.length (ps.flatMap evL)
  ins : ∀ p ∈ ps, EvIn v.ownBlock w p
theorem EvOwn.same {B : Nat} {w w' : World} {v : Value} {ps : List EvV} (h : EvOwn B w v ps) (M : Same w w') : EvOwn B w' v ps := ⟨owns_same h.own M, fun p hp => (h.ins p hp).same M⟩
theorem EvOwn.row {B : Nat} {w : World} {a : Option Addr} {n c : Nat} {ps : List EvV} (h : EvOwn B w (.slice a n c) ps) : n = ps.length ∧ EvRow w a (ps.map (·.1)) := by
  obtain ⟨a', c', e⟩ := owns_slice h.own
  injection e with _ e2 _
  refine ⟨e2, ⟨fun hp => ?_⟩⟩
  rw [List.length_map] at hp
  obtain ⟨g, cap, e, hb, hc, hr⟩ := RowV.of_owns h.own hp
  injection e with e1 _ _
  refine ⟨g, e1, hr.lt, fun j ev hj => ?_⟩
  rw [List.getElem?_map] at hj
  obtain ⟨p, hpj, rfl⟩ := Option.map_eq_some_iff.1 hj
  refine ⟨p.2.1, p.2.2, (h.ins p (List.mem_of_getElem? hpj)).tvs, (h.ins p (List.mem_of_getElem? hpj)).txs, fun i u hu => ?_⟩
  rw [evL_C, List.getElem?_toArray] at hu
  have hi : i < 6 := by
    have := (List.getElem?_eq_some_iff.1 hu).1
    simpa [evL] using this
  have hjl : j < ps.length := (List.getElem?_eq_some_iff.1 hpj).1
  refine (hr.cell (j * 6 + i) (by omega)).trans ?_
  rw [List.getD_eq_getElem?_getD, ev_get hpj hi, hu]
  rfl
theorem EvOwn.empty (w : World) (B : Nat) (hB : B ≤ w.heap.size) : EvOwn B (w.alloc (.cells #[] 34)) (.slice (some ⟨w.heap.size, 0, none⟩) 0 0) [] :=
  ⟨⟨rfl, .inr ⟨_, 0, #[], rfl, hB, heap_new _ _, Nat.le_refl _, by unfold maxLen; omega, rfl, rfl⟩⟩, fun p hp => by cases hp⟩
theorem EvOwn.nil (w : World) (B : Nat) : EvOwn B w (.slice none 0 0) [] := ⟨⟨rfl, .inl ⟨rfl, rfl⟩⟩, fun p hp => by cases hp⟩
/-- The cells of a row of events, somewhere in memory. -/
def EvAt (w : World) (src : Addr) (qs : List EvV) : Prop := ∀ j u, (qs.flatMap evL)[j]? = some u → w.cell? (src.add j) = some u
theorem EvOwn.at_ {B : Nat} {w : World} {v : Value} {ps : List EvV} (h : EvOwn B w v ps) (hp : 0 < ps.length) : ∃ g c, v = .slice (some ⟨g, 0, none⟩) ps.length c ∧ B ≤ g ∧ g < w.heap.size ∧ EvAt w ⟨g, 0, none⟩ ps := by
  obtain ⟨g, cap, e, hb, hc, hr⟩ := RowV.of_owns h.own hp
  refine ⟨g, cap, e, hb, hr.lt, fun j u hj => ?_⟩
  have hjl : j < (ps.flatMap evL).length := (List.getElem?_eq_some_iff.1 hj).1
  rw [ev_len] at hjl
  have e : Addr.add ⟨g, 0, none⟩ j = ⟨g, j, none⟩ := by simp [Addr.add]; intro q; exact q.symm
  rw [e]
  refine (hr.cell j hjl).trans ?_
  rw [List.getD_eq_getElem?_getD, hj]; rfl
theorem EvAt.same {w w' : World} {g : Nat} {qs : List EvV} (h : EvAt w ⟨g, 0, none⟩ qs) (hg : g < w.heap.size) (M : Same w w') : EvAt w' ⟨g, 0, none⟩ qs := fun j u hj => by
  have e : Addr.add ⟨g, 0, none⟩ j = ⟨g, j, none⟩ := by simp [Addr.add]; intro q; exact q.symm
  have := h j u hj
  rw [e] at this ⊢
  exact (M.cell hg (fun q => q) _).trans this
theorem ev_new (w : World) (p : EvV) : EvAt (w.alloc (.cells #[ordW p.1.o, .int .i64 p.1.er, .string ⟨p.1.d.toArray⟩, p.2.1, .int .i64 p.1.gen, p.2.2] 34)) ⟨w.heap.size, 0, none⟩ [p] := fun j u hj => by
  have e : Addr.add ⟨w.heap.size, 0, none⟩ j = ⟨w.heap.size, j, none⟩ := by simp [Addr.add]; intro q; exact q.symm
  rw [e]
  refine ((Blk.new w #[ordW p.1.o, .int .i64 p.1.er, .string ⟨p.1.d.toArray⟩, p.2.1, .int .i64 p.1.gen, p.2.2] 34).cell j).trans ?_
  have : ([p].flatMap evL) = evL p := by simp
  rw [this] at hj
  rw [List.getElem?_toArray]
  exact hj
theorem wp_append_ev {w : World} {o : Oper} {a : Act} {K : Act → World → Prop} {Q : Exit → Act → World → Prop} (s x : Operand)
    (ho : o.op = .call { callee := .builtin .append, args := #[s, x], argTypes := #[35, 35] })
    (B : Nat) (v : Value) (ps : List EvV) (hs : a.eval s = v) (hown : EvOwn B w v ps)
    (src : Addr) (m c : Nat) (qs : List EvV) (hm : qs.length = m) (h0 : 0 < m) (hx : a.eval x = .slice (some src) m c) (hq : EvAt w src qs) (hi : ∀ p ∈ qs, EvIn v.ownBlock w p)
    (h63 : ps.length + qs.length ≤ 100000) (hbase : B ≤ w.heap.size)
    (h : ∀ g cap w', EvOwn B w' (.slice (some ⟨g, 0, none⟩) (ps.length + m) cap) (ps ++ qs) → Mod (fun i => v.ownBlock = some i) w w' → (v.ownBlock = some g ∨ w.heap.size ≤ g) → K (a.put o.dst (.slice (some ⟨g, 0, none⟩) (ps.length + m) cap)) w') : o.wp Tryz.prog a w K Q := by
  subst hm
  obtain ⟨i0, hi0, hz0, hz1, hz2⟩ := info_parts info34
  refine wp_append_lies w s x 35 ho B 34 i0 _ 6 96 Tryz.underlying35 hi0 hz0 hz1 hz2 rfl (by decide) v ps.length (ps.flatMap evL) hs hown.own src qs.length c (qs.flatMap evL) hx (by rw [ev_len]) hq (ev_one hi) h0 (by unfold maxLen; omega) (by omega) hbase _ rfl (fun g cap w' h1 h2 h3 h4 => ?_)
  have M : Mod (fun i => v.ownBlock = some i) w w' := (Mod.refl _ w).grown h2 (fun k hk _ => hk.symm ▸ rfl)
  have hat : v.ownBlock = some g ∨ w.heap.size ≤ g := h3.imp id (fun q => by omega)
  refine h g cap w' ⟨?_, fun p hp => ?_⟩ M hat
  · rw [List.length_append, List.flatMap_append]
    exact h1
  · have hto : ∀ g', (Value.slice (some ⟨g, 0, none⟩) (ps.length + qs.length) cap).ownBlock = some g' → v.ownBlock = some g' ∨ w.heap.size ≤ g' := fun g' e => by
      have e : some g = some g' := e
      injection e with e
      rw [← e]
      exact hat
    rcases List.mem_append.1 hp with hp | hp
    · exact (hown.ins p hp).turn M hto
    · exact (hi p hp).turn M hto
theorem wpList_append_ev {w : World} {ops : Array Oper} {rest : List Oper} {o : Oper} {a : Act} {Q : Exit → Act → World → Prop} (hgd : Region.wanted o (yielded ops a.tmps) = true) (s x : Operand)
    (ho : o.op = .call { callee := .builtin .append, args := #[s, x], argTypes := #[35, 35] })
    (B : Nat) (v : Value) (ps : List EvV) (hs : a.eval s = v) (hown : EvOwn B w v ps)
    (src : Addr) (m c : Nat) (qs : List EvV) (hm : qs.length = m) (h0 : 0 < m) (hx : a.eval x = .slice (some src) m c) (hq : EvAt w src qs) (hi : ∀ p ∈ qs, EvIn v.ownBlock w p)
    (h63 : ps.length + qs.length ≤ 100000) (hbase : B ≤ w.heap.size)
    (h : ∀ g cap w', EvOwn B w' (.slice (some ⟨g, 0, none⟩) (ps.length + m) cap) (ps ++ qs) → Mod (fun i => v.ownBlock = some i) w w' → (v.ownBlock = some g ∨ w.heap.size ≤ g) → wpList Tryz.prog ops Q rest (a.put o.dst (.slice (some ⟨g, 0, none⟩) (ps.length + m) cap)) w') : wpList Tryz.prog ops Q (o :: rest) a w := by
  refine wpList_step fun K hK => ?_
  rw [if_pos hgd]
  exact wp_append_ev s x ho B v ps hs hown src m c qs hm h0 hx hq hi h63 hbase (fun g cap w' h1 h2 h3 => hK _ _ (h g cap w' h1 h2 h3))
/-- What an append onto a row of one's own leaves as it was. -/
theorem EvOwn.kept {B : Nat} {w w' : World} {v : Value} {ps : List EvV} (h : EvOwn B w v ps) (M : Mod (fun i => v.ownBlock = some i) w w') {w0 : World} (M0 : Same w0 w) (hB : w0.heap.size ≤ B) : Same w0 w' :=
  M0.then_ M (fun i hi q => by have := (h.own.lt i q).1; omega)
end Go.Proofs.YtlcepoagpocadaaGreatDoor
set_option maxRecDepth 100000
/- The document's examples of a witness. -/
namespace Go.Proofs.YtlcepoagpocadaaGreatDoor
open Go Go.RowKit
theorem blk_at {w : World} {g : Nat} {cs : Array Value} {qs : List EvV} (h : Blk w g cs) (e : cs = (qs.flatMap evL).toArray) : EvAt w ⟨g, 0, none⟩ qs := fun j u hj => by
  have e2 : Addr.add ⟨g, 0, none⟩ j = ⟨g, j, none⟩ := by simp [Addr.add]; intro q; exact q.symm
  rw [e2]
  refine (h.cell j).trans ?_
  rw [e, List.getElem?_toArray]
  exact hj
def ap1 : EvV := (aw1, .slice none 0 0, .slice none 0 0)
def ap2 : EvV := (aw2, .slice none 0 0, .slice none 0 0)
def ap3 : EvV := (aw3, .slice none 0 0, .slice none 0 0)
def apR : EvV := (awR, .slice none 0 0, .slice none 0 0)
theorem ap_in (own : Option Nat) (w : World) : ∀ p ∈ [ap1, ap2, ap3], EvIn own w p := fun p hp => by
  simp only [List.mem_cons, List.not_mem_nil, or_false] at hp
  rcases hp with rfl | rfl | rfl
  · exact evN_in own w _ _
  · exact evN_in own w _ _
  · exact evN_in own w _ _
/-- An event with a row of one volume and a dump of one text. -/
theorem evK_in {own : Option Nat} {w : World} {gv gd cv cd : Nat} {x : List UInt8} {ev : Ev} {v : Vo} (h1 : ev.vols = [v]) (h2 : ev.dump = [x]) (hv : Blk w gv #[.int .i64 v.id, .int .i64 v.size, .int .i64 0, .bool v.pin, .int .i64 v.fr]) (hd : Blk w gd #[strV x]) (n1 : own ≠ some gv) (n2 : own ≠ some gd) :
    EvIn own w (ev, .slice (some ⟨gv, 0, none⟩) 1 cv, .slice (some ⟨gd, 0, none⟩) 1 cd) := by
  refine ⟨⟨some ⟨gv, 0, none⟩, cv, by dsimp only; rw [h1]; rfl, fun _ => ⟨gv, rfl, n1, hv.lt, fun i hi => ?_, hv.free⟩⟩, ⟨some ⟨gd, 0, none⟩, cd, by dsimp only; rw [h2]; rfl, fun _ => ⟨gd, rfl, n2, hd.lt, fun i hi => ?_, hd.free⟩⟩⟩
  · dsimp only at hi ⊢
    rw [h1] at hi ⊢
    have hi : i < 5 := hi
    refine (hv.cell i).trans ?_
    rcases i with _ | _ | _ | _ | _ | i
    · rfl
    · rfl
    · rfl
    · rfl
    · rfl
    · omega
  · dsimp only at hi ⊢
    rw [h2] at hi ⊢
    have hi : i < 1 := hi
    obtain rfl : i = 0 := by omega
    exact (hd.cell 0).trans rfl
set_option maxHeartbeats 16000000 in
theorem awake9_any (w : World) (hL : LibT w) : Calls Tryz.prog 9 #[] w fun e w' => e = .returned (.bool true) ∧ Same w w' := by
  refine opq fun R HR => ?_
  have HL := Lib.hid hL
  have SEC := Lib.hid (fun (b : Nat) (hb : b < 256) w => sec_any w b hb)
  have S5 := Lib.hid (show ∀ w, Calls Tryz.prog 10 #[.int .u8 5] w fun e w' => e = .returned (strV (secT 5)) ∧ Same w w' from fun w => SEC.out 5 (by decide) w)
  have S0 := Lib.hid (show ∀ w, Calls Tryz.prog 10 #[.int .u8 0] w fun e w' => e = .returned (strV (secT 0)) ∧ Same w w' from fun w => SEC.out 0 (by decide) w)
  have S6 := Lib.hid (show ∀ w, Calls Tryz.prog 10 #[.int .u8 6] w fun e w' => e = .returned (strV (secT 6)) ∧ Same w w' from fun w => SEC.out 6 (by decide) w)
  clear hL SEC
  unfold strV at S5 S0 S6
  go_enter Tryz.func9, Tryz.ntmps9
  go_wp2_with fail
  refine (S5.out _).mono ?_
  rintro e w1 ⟨rfl, M⟩
  have N1 := Lib.hid (show Same w w1 from M)
  clear M
  go_upto_region 3 with fail
  obtain ⟨w2, hw2⟩ : ∃ z, w1.alloc (.cells #[.iface 25 (.agg #[.int .i64 1, .int .i64 1]), .int .i64 0, .string ⟨#[]⟩, .slice none 0 0, .int .i64 1, .slice none 0 0, .iface 40 (.agg #[]), .int .i64 0, .string ⟨#[]⟩, .slice none 0 0, .int .i64 2, .slice none 0 0, .iface 38 (.agg #[.int .i64 1, .int .i64 0, .string ⟨(secT 5).toArray⟩]), .int .i64 0, .string ⟨#[]⟩, .slice none 0 0, .int .i64 2, .slice none 0 0] 34) = z := ⟨_, rfl⟩
  rw [hw2]
  have N2 := Lib.hid (show Same w w2 by rw [← hw2]; exact N1.out.alloc _)
  have HL2 := Lib.hid (show EvAt w2 ⟨w1.heap.size, 0, none⟩ [ap1, ap2, ap3] by rw [← hw2]; exact blk_at (Blk.new w1 #[.iface 25 (.agg #[.int .i64 1, .int .i64 1]), .int .i64 0, .string ⟨#[]⟩, .slice none 0 0, .int .i64 1, .slice none 0 0, .iface 40 (.agg #[]), .int .i64 0, .string ⟨#[]⟩, .slice none 0 0, .int .i64 2, .slice none 0 0, .iface 38 (.agg #[.int .i64 1, .int .i64 0, .string ⟨(secT 5).toArray⟩]), .int .i64 0, .string ⟨#[]⟩, .slice none 0 0, .int .i64 2, .slice none 0 0] 34) rfl)
  have hl2 : w1.heap.size < w2.heap.size := by rw [← hw2]; simp
  obtain ⟨w3, hw3⟩ : ∃ z, w2.alloc (.cells #[.int .i64 1, .int .i64 1, .int .i64 0, .bool false, .int .i64 0] 47) = z := ⟨_, rfl⟩
  rw [hw3]
  have N3 := Lib.hid (show Same w w3 by rw [← hw3]; exact N2.out.alloc _)
  have N23 := Lib.hid (show Same w2 w3 by rw [← hw3]; exact (Mod.refl _ _).alloc _)
  have HV3 := Lib.hid (show Blk w3 w2.heap.size #[.int .i64 1, .int .i64 1, .int .i64 0, .bool false, .int .i64 0] by rw [← hw3]; exact Blk.new w2 _ 47)
  have hl3 : w2.heap.size < w3.heap.size := HV3.out.lt
  have h21 : w1.heap.size + 1 = w2.heap.size := by rw [← hw2]; simp
  rw [h21]
  clear hw2 hw3 h21
  have X0 := Lib.hid (show Same w2 w3 from N23.out)
  have XW0 := Lib.hid (show Same w3 w3 from Mod.refl _ _)
  go_wp2_with (at_builtin; refine wpList_append_ev (by rfl) (.tmp 21) (.tmp 22) rfl w3.heap.size (.slice (some ⟨w3.heap.size, 0, none⟩) 0 0) [] rfl (EvOwn.empty w3 _ (Nat.le_refl _)) ⟨w1.heap.size, 0, none⟩ 3 3 [ap1, ap2, ap3] rfl (by decide) rfl (HL2.out.same hl2 (X0.out.alloc _)) (ap_in _ _) (by decide) (by simp) ?_; intro g0 cap0 w4 hown hM hat; have EO0 := Lib.hid hown; have NA0 := Lib.hid (show Same w3 w4 from (EvOwn.empty w3 w3.heap.size (Nat.le_refl _)).kept hM ((Mod.refl _ _).alloc _) (Nat.le_refl _)); have HG0 := Lib.hid (show w3.heap.size ≤ g0 from hat.elim (fun q => by have e : some w3.heap.size = some g0 := q; injection e with e; omega) (fun q => Nat.le_trans ((Mod.refl (fun _ => False) w3).alloc _).size q)); clear hown hM hat)
  refine (S0.out _).mono ?_
  rintro e w5 ⟨rfl, M⟩
  have NS0 := Lib.hid (show Same w4 w5 from M)
  clear M
  have hs0 := NA0.out.size
  have hs20 := NS0.out.size
  have hx0 := X0.out.size
  obtain ⟨w6, hw6⟩ : ∃ z, w5.alloc (.cells #[.string ⟨(secT 0).toArray⟩] 9) = z := ⟨_, rfl⟩
  have NT0 := Lib.hid (show Same w5 w6 by rw [← hw6]; exact (Mod.refl _ _).alloc _)
  have BD0 := Lib.hid (show Blk w6 w5.heap.size #[.string ⟨(secT 0).toArray⟩] by rw [← hw6]; exact Blk.new w5 _ 9)
  have Y0 := Lib.hid (show Same w4 w6 from NS0.out.same NT0.out)
  have NM0 := Lib.hid (show Same w3 w6 from NA0.out.same Y0.out)
  have BV0 := Lib.hid (show Blk w6 w2.heap.size #[.int .i64 1, .int .i64 1, .int .i64 0, .bool false, .int .i64 0] from HV3.out.mod (show Same w3 w6 from XW0.out.same NM0.out) (fun q => q))
  have IN0 := Lib.hid (show EvIn (some g0) (w6.alloc (.cells #[ordW ⟨14, [], [[], [], []]⟩, .int .i64 0, .string ⟨#[]⟩, .slice (some ⟨w2.heap.size, 0, none⟩) 1 1, .int .i64 2, .slice (some ⟨w5.heap.size, 0, none⟩) 1 1] 34)) (evK awV 2 (secT 0), .slice (some ⟨w2.heap.size, 0, none⟩) 1 1, .slice (some ⟨w5.heap.size, 0, none⟩) 1 1) from evK_in rfl rfl (BV0.out.alloc _) (BD0.out.alloc _) (fun q => by injection q with q; have := HG0.out; have := XW0.out.size; omega) (fun q => by injection q with q; have := (EO0.out.own.lt g0 rfl).2; omega))
  go_upto_region 4 with (at_builtin; refine wpList_append_ev (by rfl) (.tmp 23) (.tmp 31) rfl _ _ _ rfl (EO0.out.same (Y0.out.alloc _)) ⟨w6.heap.size, 0, none⟩ 1 1 [(evK awV 2 (secT 0), .slice (some ⟨w2.heap.size, 0, none⟩) 1 1, .slice (some ⟨w5.heap.size, 0, none⟩) 1 1)] rfl (by decide) rfl (ev_new w6 (evK awV 2 (secT 0), .slice (some ⟨w2.heap.size, 0, none⟩) 1 1, .slice (some ⟨w5.heap.size, 0, none⟩) 1 1)) (fun p hp => by rw [List.mem_singleton.1 hp]; exact IN0.out) (by show 4 ≤ 100000; decide) (Nat.le_trans (Lib.hid NM0.out).out.size ((Mod.refl (fun _ => False) w6).alloc _).size) ?_; intro h0 cbp0 w7 hown hM hat; have EP0 := Lib.hid hown; have NP0 := Lib.hid (show Same w3 w7 from (EO0.out.same (Y0.out.alloc _)).kept hM (NM0.out.alloc _) (Nat.le_refl _)); clear hown hM hat)
  have X1 := Lib.hid (show Same w2 w7 from X0.out.same NP0.out)
  have XW1 := Lib.hid (show Same w3 w7 from XW0.out.same NP0.out)
  clear hw6
  go_wp2_with (at_builtin; refine wpList_append_ev (by rfl) (.tmp 33) (.tmp 34) rfl w7.heap.size (.slice (some ⟨w7.heap.size, 0, none⟩) 0 0) [] rfl (EvOwn.empty w7 _ (Nat.le_refl _)) ⟨w1.heap.size, 0, none⟩ 3 3 [ap1, ap2, ap3] rfl (by decide) rfl (HL2.out.same hl2 (X1.out.alloc _)) (ap_in _ _) (by decide) (by simp) ?_; intro g1 cap1 w8 hown hM hat; have EO1 := Lib.hid hown; have NA1 := Lib.hid (show Same w7 w8 from (EvOwn.empty w7 w7.heap.size (Nat.le_refl _)).kept hM ((Mod.refl _ _).alloc _) (Nat.le_refl _)); have HG1 := Lib.hid (show w7.heap.size ≤ g1 from hat.elim (fun q => by have e : some w7.heap.size = some g1 := q; injection e with e; omega) (fun q => Nat.le_trans ((Mod.refl (fun _ => False) w7).alloc _).size q)); clear hown hM hat)
  refine (S6.out _).mono ?_
  rintro e w9 ⟨rfl, M⟩
  have NS1 := Lib.hid (show Same w8 w9 from M)
  clear M
  have hs1 := NA1.out.size
  have hs21 := NS1.out.size
  have hx1 := X1.out.size
  obtain ⟨w10, hw10⟩ : ∃ z, w9.alloc (.cells #[.string ⟨(secT 6).toArray⟩] 9) = z := ⟨_, rfl⟩
  have NT1 := Lib.hid (show Same w9 w10 by rw [← hw10]; exact (Mod.refl _ _).alloc _)
  have BD1 := Lib.hid (show Blk w10 w9.heap.size #[.string ⟨(secT 6).toArray⟩] by rw [← hw10]; exact Blk.new w9 _ 9)
  have Y1 := Lib.hid (show Same w8 w10 from NS1.out.same NT1.out)
  have NM1 := Lib.hid (show Same w7 w10 from NA1.out.same Y1.out)
  have BV1 := Lib.hid (show Blk w10 w2.heap.size #[.int .i64 1, .int .i64 1, .int .i64 0, .bool false, .int .i64 0] from HV3.out.mod (show Same w3 w10 from XW1.out.same NM1.out) (fun q => q))
  have IN1 := Lib.hid (show EvIn (some g1) (w10.alloc (.cells #[ordW ⟨14, [], [[], [], []]⟩, .int .i64 0, .string ⟨#[]⟩, .slice (some ⟨w2.heap.size, 0, none⟩) 1 1, .int .i64 2, .slice (some ⟨w9.heap.size, 0, none⟩) 1 1] 34)) (evK awV 2 (secT 6), .slice (some ⟨w2.heap.size, 0, none⟩) 1 1, .slice (some ⟨w9.heap.size, 0, none⟩) 1 1) from evK_in rfl rfl (BV1.out.alloc _) (BD1.out.alloc _) (fun q => by injection q with q; have := HG1.out; have := XW1.out.size; omega) (fun q => by injection q with q; have := (EO1.out.own.lt g1 rfl).2; omega))
  go_upto_region 5 with (at_builtin; refine wpList_append_ev (by rfl) (.tmp 35) (.tmp 43) rfl _ _ _ rfl (EO1.out.same (Y1.out.alloc _)) ⟨w10.heap.size, 0, none⟩ 1 1 [(evK awV 2 (secT 6), .slice (some ⟨w2.heap.size, 0, none⟩) 1 1, .slice (some ⟨w9.heap.size, 0, none⟩) 1 1)] rfl (by decide) rfl (ev_new w10 (evK awV 2 (secT 6), .slice (some ⟨w2.heap.size, 0, none⟩) 1 1, .slice (some ⟨w9.heap.size, 0, none⟩) 1 1)) (fun p hp => by rw [List.mem_singleton.1 hp]; exact IN1.out) (by show 4 ≤ 100000; decide) (Nat.le_trans (Lib.hid NM1.out).out.size ((Mod.refl (fun _ => False) w10).alloc _).size) ?_; intro h1 cbp1 w11 hown hM hat; have EP1 := Lib.hid hown; have NP1 := Lib.hid (show Same w7 w11 from (EO1.out.same (Y1.out.alloc _)).kept hM (NM1.out.alloc _) (Nat.le_refl _)); clear hown hM hat)
  have X2 := Lib.hid (show Same w2 w11 from X1.out.same NP1.out)
  have XW2 := Lib.hid (show Same w3 w11 from XW1.out.same NP1.out)
  clear hw10
  go_upto_region 6 with (at_builtin; first | (refine wpList_append_ev (by rfl) (.tmp 45) (.tmp 46) rfl w11.heap.size (.slice (some ⟨w11.heap.size, 0, none⟩) 0 0) [] rfl (EvOwn.empty w11 _ (Nat.le_refl _)) ⟨w1.heap.size, 0, none⟩ 3 3 [ap1, ap2, ap3] rfl (by decide) rfl (HL2.out.same hl2 (X2.out.alloc _)) (ap_in _ _) (by decide) (by simp) ?_; intro g2 cap2 w12 hown hM hat; have EO2 := Lib.hid hown; have NA2 := Lib.hid (show Same w11 w12 from (EvOwn.empty w11 w11.heap.size (Nat.le_refl _)).kept hM ((Mod.refl _ _).alloc _) (Nat.le_refl _)); have HG2 := Lib.hid (show w11.heap.size ≤ g2 from hat.elim (fun q => by have e : some w11.heap.size = some g2 := q; injection e with e; omega) (fun q => Nat.le_trans ((Mod.refl (fun _ => False) w11).alloc _).size q)); clear hown hM hat) | (refine wpList_append_ev (by rfl) (.tmp 47) (.tmp 51) rfl _ _ _ rfl (EO2.out.same ((Mod.refl _ _).alloc _)) ⟨w12.heap.size, 0, none⟩ 1 1 [apR] rfl (by decide) rfl (ev_new w12 apR) (fun p hp => by rw [List.mem_singleton.1 hp]; exact evN_in _ _ _ _) (by show 4 ≤ 100000; decide) (Nat.le_trans (Lib.hid NA2.out).out.size ((Mod.refl (fun _ => False) w12).alloc _).size) ?_; intro h2 cbp2 w13 hown hM hat; have EP2 := Lib.hid hown; have NP2 := Lib.hid (show Same w11 w13 from (EO2.out.same ((Mod.refl _ _).alloc _)).kept hM (NA2.out.alloc _) (Nat.le_refl _)); clear hown hM hat))

  have NF := Lib.hid (show Same w w13 from ((N3.out.same NP0.out).same NP1.out).same NP2.out)
  have RA := Lib.hid (show EvRow w13 (some ⟨h0, 0, none⟩) [aw1, aw2, aw3, evK awV 2 (secT 0)] from EP0.out.row.2.same (NP1.out.same NP2.out))
  have RB := Lib.hid (show EvRow w13 (some ⟨h1, 0, none⟩) [aw1, aw2, aw3, evK awV 2 (secT 6)] from EP1.out.row.2.same NP2.out)
  have RC := Lib.hid (show EvRow w13 (some ⟨h2, 0, none⟩) [aw1, aw2, aw3, awR] from EP2.out.row.2)
  have hEK := Lib.hid (fun (x : List UInt8) (hx : x.length ≤ 1000000) P f (hP : Iso (emptyS 1) P f) (j : Nat) (t : WS) (ev : Ev) (hr : RunR ⟨emptyS 1, P, 1, []⟩ (([aw1, aw2, aw3, evK awV 2 x] : List Ev).take j) t) (hj : ([aw1, aw2, aw3, evK awV 2 x] : List Ev)[j]? = some ev) => show EvOk t ev from by
    rcases aw_take hP hr hj with ⟨_, rfl, h⟩ | ⟨_, _, h⟩
    · exact aw_okK hx h
    · exact aw_ok (h.imp id (fun q => q.imp id .inl)) t)
  have hER := Lib.hid (fun P f (hP : Iso (emptyS 1) P f) (j : Nat) (t : WS) (ev : Ev) (hr : RunR ⟨emptyS 1, P, 1, []⟩ (([aw1, aw2, aw3, awR] : List Ev).take j) t) (hj : ([aw1, aw2, aw3, awR] : List Ev)[j]? = some ev) => show EvOk t ev from by
    rcases aw_take hP hr hj with ⟨_, rfl, h⟩ | ⟨_, _, h⟩
    · exact aw_ok (.inr (.inr (.inr rfl))) t
    · exact aw_ok (h.imp id (fun q => q.imp id .inl)) t)
  have TA := Lib.hid (fun W (M : Same w13 W) => show Calls Tryz.prog 11 #[.slice (some ⟨h0, 0, none⟩) 4 cbp0, .int .i64 1, .int .i64 9] W fun e w' => TolR 1 [aw1, aw2, aw3, evK awV 2 (secT 0)] w' e ∧ Same W w' from told_run W (HL.out.same (NF.out.same M)) _ _ 4 cbp0 rfl (RA.out.same M) 1 (by decide) (by decide) 9 (by decide) (hEK.out _ (by decide)))
  have WA := Lib.hid (fun W (M : Same w13 W) => show Calls Tryz.prog 13 #[.slice (some ⟨h0, 0, none⟩) 4 cbp0, .int .i64 1, .int .i64 9] W fun e w' => WroR 1 [aw1, aw2, aw3, evK awV 2 (secT 0)] e ∧ Same W w' from wrong_run W (HL.out.same (NF.out.same M)) _ _ 4 cbp0 rfl (RA.out.same M) 1 (by decide) (by decide) 9 (by decide) (hEK.out _ (by decide)))
  have WB := Lib.hid (fun W (M : Same w13 W) => show Calls Tryz.prog 13 #[.slice (some ⟨h1, 0, none⟩) 4 cbp1, .int .i64 1, .int .i64 9] W fun e w' => WroR 1 [aw1, aw2, aw3, evK awV 2 (secT 6)] e ∧ Same W w' from wrong_run W (HL.out.same (NF.out.same M)) _ _ 4 cbp1 rfl (RB.out.same M) 1 (by decide) (by decide) 9 (by decide) (hEK.out _ (by decide)))
  have WC := Lib.hid (fun W (M : Same w13 W) => show Calls Tryz.prog 13 #[.slice (some ⟨h2, 0, none⟩) 4 cbp2, .int .i64 1, .int .i64 9] W fun e w' => WroR 1 [aw1, aw2, aw3, awR] e ∧ Same W w' from wrong_run W (HL.out.same (NF.out.same M)) _ _ 4 cbp2 rfl (RC.out.same M) 1 (by decide) (by decide) 9 (by decide) hER.out)
  clear RA RB RC hEK hER EP0 EP1 EP2 NP0 NP1 NP2 X0 X1 X2 XW0 XW1 XW2 NM0 NM1 IN0 IN1 BV0 BV1 BD0 BD1 Y0 Y1 EO0 EO1 EO2 NA0 NA1 NA2 HG0 HG1 HG2 NS0 NS1 NT0 NT1 HV3 HL2 N1 N2 N3 N23
  go_wp2_with fail
  refine (TA.out _ (Mod.refl _ _)).mono ?_
  rintro e w14 ⟨⟨P, f, hP, hc⟩, M⟩
  have N14 := Lib.hid M
  clear M
  rcases hc with ⟨t, m, K, hr, rfl, hm, hG, hW⟩ | ⟨j, t, ev, hr, hj, hg, rfl⟩
  case inr =>
    exfalso
    rcases aw_take hP hr hj with ⟨_, rfl, h⟩ | ⟨_, h, _⟩
    · exact (aw_a h).1 hg
    · exact h hg
  have HM := Lib.hid (show ∀ W, Same w14 W → Md Tryz.prog K W m t.now from fun W M => hm.same M)
  have HGW := Lib.hid (show Good t.now ∧ Wf t.now from ⟨hG, hW⟩)
  have HIN := Lib.hid (show t.now.vols.length = 1 by
    obtain ⟨u, h, g⟩ := aw_full hP hr
    have := congrArg List.length ((aw_a h).2 t g)
    unfold infoS at this
    simpa using this)
  clear hP hr hm hG hW
  unfold bp
  go_wp2_with fail
  refine (WA.out _ N14.out).mono ?_
  rintro e w15 ⟨⟨P, f, hP, hc⟩, M⟩
  have N15 := Lib.hid M
  clear M
  rcases hc with ⟨t2, hr, rfl⟩ | ⟨j, t2, ev, hr, hj, hg, rfl⟩
  case inr =>
    exfalso
    rcases aw_take hP hr hj with ⟨_, rfl, h⟩ | ⟨_, h, _⟩
    · exact (aw_a h).1 hg
    · exact h hg
  clear hP hr
  go_wp2_with fail
  refine (WB.out _ (N14.out.same N15.out)).mono ?_
  rintro e w16 ⟨⟨P, f, hP, hc⟩, M⟩
  have N16 := Lib.hid (N15.out.same M)
  clear M
  rcases hc with ⟨t2, hr, rfl⟩ | ⟨j, t2, ev, hr, hj, hg, rfl⟩
  case inl =>
    exfalso
    obtain ⟨u, h, g⟩ := aw_full hP hr
    exact aw_b h g
  obtain rfl : j = 3 := by
    rcases aw_take hP hr hj with ⟨q, _⟩ | ⟨_, h, _⟩
    · exact q
    · exact absurd hg h
  clear hP hr hj hg
  go_wp2_with fail
  refine (WC.out _ (N14.out.same N16.out)).mono ?_
  rintro e w17 ⟨⟨P, f, hP, hc⟩, M⟩
  have N17 := Lib.hid (N16.out.same M)
  clear M
  rcases hc with ⟨t2, hr, rfl⟩ | ⟨j, t2, ev, hr, hj, hg, rfl⟩
  case inl =>
    exfalso
    obtain ⟨u, h, g⟩ := aw_full hP hr
    exact aw_c h g
  obtain rfl : j = 3 := by
    rcases aw_take hP hr hj with ⟨q, _⟩ | ⟨_, h, _⟩
    · exact q
    · exact absurd hg h
  clear hP hr hj hg
  go_wp2_with fail
  refine (volumes_md (HM.out _ N17.out) HGW.out.1 HGW.out.2).mono ?_
  rintro e w18 ⟨vv, rfl, hv, -, M⟩
  have N18 := Lib.hid (N17.out.same M)
  obtain ⟨av, cv, rfl⟩ := owns_slice hv
  rw [HIN.out]
  clear hv M
  go_wp2_with fail
  refine (wrong_zero _ _ _ _ _).mono ?_
  rintro e w19 ⟨rfl, M⟩
  have N19 := Lib.hid (N18.out.same M)
  clear M
  go_wp2
  exact HR.out _ _ ⟨rfl, (NF.out.same N14.out).same N19.out⟩
end Go.Proofs.YtlcepoagpocadaaGreatDoor
