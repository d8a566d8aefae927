import Derived.Test.YtlcepoagpocadaaGreatDoorMgS
import Derived.Test.YtlcepoagpocadaaGreatDoorMfH
import Derived.Laws.AppendOwnNone
set_option linter.unusedSimpArgs false
set_option linter.unusedVariables false
set_option maxRecDepth 100000
/- A row of texts is appended to a row of one's own. -/
namespace Go.Proofs.YtlcepoagpocadaaGreatDoor
open Go Go.RowKit
theorem Md.moreN {P : Program} {K T : Nat → Prop} {w w' : World} {m : Nat} {S : MS} (h : Md P K w m S) (M : Mod T w w') (hT : ∀ b, b < w.heap.size → T b → K b) : Md P (fun i => K i ∨ (w.heap.size ≤ i ∧ i < w'.heap.size)) w' m S := by
  obtain ⟨ow, ⟨H, vm, h1, h2, h3, A⟩, e⟩ := h
  refine ⟨ow, ⟨H, vm, fun b => (h1 b).mod M (fun q r => h2 b q (hT b (h1.lt q) r)), fun b q r => r.elim (h2 b q) (fun r => ?_), fun i q => q.elim (fun q => Nat.lt_of_lt_of_le (h3 i q) M.size) (fun q => q.2), A⟩, e⟩
  have := h1.lt q
  omega
/-- A row of texts in memory; where it is no block's, it is the empty one. -/
structure TxD (w : World) (v : Value) (xs : List (List UInt8)) : Prop where
  ex : ∃ a c, v = .slice a xs.length c ∧ (a = none → xs = [] ∧ c = 0) ∧ (0 < xs.length → ∃ g, a = some ⟨g, 0, none⟩ ∧ RowV w g xs.length (txF xs))
theorem TxD.txs {w : World} {v : Value} {xs : List (List UInt8)} (h : TxD w v xs) : TxS w v xs := by
  obtain ⟨a, c, e, -, k⟩ := h.ex
  exact ⟨⟨a, c, e, k⟩⟩
/-- Rows in blocks that are not older than B. -/
structure TxE (B : Nat) (w : World) (v : Value) (xs : List (List UInt8)) : Prop where
  ex : ∃ a c, v = .slice a xs.length c ∧ (a = none → xs = [] ∧ c = 0) ∧ (0 < xs.length → ∃ g, a = some ⟨g, 0, none⟩ ∧ B ≤ g ∧ RowV w g xs.length (txF xs))
theorem TxE.mod {Q : Nat → Prop} {B : Nat} {w w' : World} {v : Value} {xs : List (List UInt8)} (h : TxE B w v xs) (M : Mod Q w w') (hQ : ∀ g, B ≤ g → g < w.heap.size → ¬ Q g) : TxE B w' v xs := by
  obtain ⟨a, c, e, n, k⟩ := h.ex
  exact ⟨⟨a, c, e, n, fun hp => let ⟨g, e2, hb, r⟩ := k hp; ⟨g, e2, hb, r.mod M (hQ g hb r.lt)⟩⟩⟩
theorem TxE.same {B : Nat} {w w' : World} {v : Value} {xs : List (List UInt8)} (h : TxE B w v xs) (M : Same w w') : TxE B w' v xs := h.mod M (fun _ _ _ q => q)
theorem TxE.txd {B : Nat} {w : World} {v : Value} {xs : List (List UInt8)} (h : TxE B w v xs) : TxD w v xs := by
  obtain ⟨a, c, e, n, k⟩ := h.ex
  exact ⟨⟨a, c, e, n, fun hp => let ⟨g, e2, _, r⟩ := k hp; ⟨g, e2, r⟩⟩⟩
theorem TxE.owns {w : World} {B : Nat} {v : Value} {xs : List (List UInt8)} (h : w.ownsRow B 9 1 v xs.length (xs.map strV)) : TxE B w v xs := by
  obtain ⟨a, c, rfl⟩ := owns_slice h
  refine ⟨⟨a, c, rfl, fun e => ?_, fun hp => ?_⟩⟩
  · subst e
    obtain ⟨h1, h2⟩ := h
    rcases h2 with ⟨e, h3⟩ | ⟨b, cap, cells, e, _⟩
    · injection e with e1 e2 e3
      exact ⟨List.length_eq_zero_iff.1 e2, e3⟩
    · injection e with e1 _ _
      cases e1
  · obtain ⟨g, cap, e, hb, hc, hr⟩ := RowV.of_owns h hp
    injection e with e1 _ _
    rw [Nat.mul_one] at hr
    exact ⟨g, e1, hb, hr.congr (fun i hi => txF_map xs i hi)⟩
structure TvE (B : Nat) (w : World) (v : Value) (l : List Vo) : Prop where
  ex : ∃ a c, v = .slice a l.length c ∧ (0 < l.length → ∃ g, a = some ⟨g, 0, none⟩ ∧ B ≤ g ∧ RowV w g (l.length * 5) (fun i => (l.flatMap infoC).getD i undef))
theorem TvE.mod {Q : Nat → Prop} {B : Nat} {w w' : World} {v : Value} {l : List Vo} (h : TvE B w v l) (M : Mod Q w w') (hQ : ∀ g, B ≤ g → g < w.heap.size → ¬ Q g) : TvE B w' v l := by
  obtain ⟨a, c, e, k⟩ := h.ex
  exact ⟨⟨a, c, e, fun hp => let ⟨g, e2, hb, r⟩ := k hp; ⟨g, e2, hb, r.mod M (hQ g hb r.lt)⟩⟩⟩
theorem TvE.owns {B : Nat} {w : World} {v : Value} {l : List Vo} (h : w.ownsRow B 47 5 v l.length (l.flatMap infoC)) : TvE B w v l := by
  obtain ⟨a, c, rfl⟩ := owns_slice h
  refine ⟨⟨a, c, rfl, fun hp => ?_⟩⟩
  obtain ⟨g, cap, e, hb, hc, hr⟩ := RowV.of_owns h hp
  injection e with e1 _ _
  exact ⟨g, e1, hb, hr⟩
theorem wpList_append_tx {w : World} {ops : Array Oper} {rest : List Oper} {o : Oper} {a : Act} {Q : Exit → Act → World → Prop} (hgd : Region.wanted o (yielded ops a.tmps) = true) (s x : Operand)
    (ho : o.op = .call { callee := .builtin .append, args := #[s, x], argTypes := #[32, 32] })
    (base : Nat) (i : TypeInfo) (hi : Tryz.prog.info? 9 = some i) (hz : i.zero = some (.string ⟨#[]⟩)) (hsize : i.size = 1) (hby : i.bytes = 16)
    (v : Value) (n : Nat) (xs : List Value) (hs : a.eval s = v) (hown : w.ownsRow base 9 1 v n xs)
    (vd : Value) (D : List (List UInt8)) (hx : a.eval x = vd) (hd : TxD w vd D)
    (h63 : n + D.length ≤ 1000000) (hbase : base ≤ w.heap.size)
    (h : ∀ v' w', w'.ownsRow base 9 1 v' (n + D.length) (xs ++ D.map strV) → w.grownBy w' v.ownBlock → wpList Tryz.prog ops Q rest (a.put o.dst v') w') : wpList Tryz.prog ops Q (o :: rest) a w := by
  obtain ⟨ad, c, rfl, hnn, hdr⟩ := hd.ex
  refine wpList_step fun K hK => ?_
  rw [if_pos hgd]
  cases ad with
  | none =>
    obtain ⟨rfl, rfl⟩ := hnn rfl
    have hrun := run_append_owned_none (P := Tryz.prog) (w := w) base 32 o.type 9 i 1 Tryz.underlying32 hi v n xs hown
    have hx' : a.eval x = .slice none 0 0 := hx
    unfold Oper.wp
    simp [execOp, ho, resolve, invoke, builtin, hs, hx', hrun, Result.andThen]
    exact hK _ _ (h v w (by simpa using hown) (World.grownBy.refl _ _))
  | some src =>
    refine wp_append_own w s x 32 ho base 9 i (.string ⟨#[]⟩) 1 16 Tryz.underlying32 hi hz hsize hby rfl (by decide) v n xs hs hown src D.length c (D.map strV) hx (by simp) (fun j u hj => ?_) (fun u hu => by obtain ⟨s, _, rfl⟩ := List.mem_map.1 hu; rfl) (by unfold maxLen; omega) (by omega) hbase (fun v' w' h1 h2 _ => hK _ _ (h v' w' h1 h2))
    have hjl : j < D.length := by have := (List.getElem?_eq_some_iff.1 hj).1; simpa using this
    obtain ⟨g, e, hr⟩ := hdr (by omega)
    cases e
    have e : Addr.add ⟨g, 0, none⟩ j = ⟨g, j, none⟩ := by simp [Addr.add]; intro q; exact q.symm
    rw [e]
    refine (hr.cell j hjl).trans ?_
    rw [← txF_map D j hjl, List.getD_eq_getElem?_getD, hj]; rfl
/-- One text more; the operation may be guarded. -/
theorem wpList_append_one {w : World} {ops : Array Oper} {rest : List Oper} {o : Oper} {a : Act} {Q : Exit → Act → World → Prop} (hgd : Region.wanted o (yielded ops a.tmps) = true) (s x : Operand)
    (ho : o.op = .call { callee := .builtin .append, args := #[s, x], argTypes := #[32, 32] })
    (base : Nat) (i : TypeInfo) (hi : Tryz.prog.info? 9 = some i) (hz : i.zero = some (.string ⟨#[]⟩)) (hsize : i.size = 1) (hby : i.bytes = 16)
    (v : Value) (n : Nat) (xs : List Value) (hs : a.eval s = v) (hown : w.ownsRow base 9 1 v n xs)
    (ad : Addr) (c : Nat) (u : ByteArray) (hx : a.eval x = .slice (some ad) 1 c) (hu : ∀ j z, [Value.string u][j]? = some z → w.cell? (ad.add j) = some z)
    (h63 : n + 1 ≤ 1000000) (hbase : base ≤ w.heap.size)
    (h : ∀ v' w', w'.ownsRow base 9 1 v' (n + 1) (xs ++ [.string u]) → w.grownBy w' v.ownBlock → wpList Tryz.prog ops Q rest (a.put o.dst v') w') : wpList Tryz.prog ops Q (o :: rest) a w := by
  refine wpList_step fun K hK => ?_
  rw [if_pos hgd]
  exact wp_append_own w s x 32 ho base 9 i (.string ⟨#[]⟩) 1 16 Tryz.underlying32 hi hz hsize hby rfl (by decide) v n xs hs hown ad 1 c [.string u] hx rfl hu (fun z hz => by simp at hz; subst hz; rfl) (by unfold maxLen; omega) (by omega) hbase (fun v' w' h1 h2 _ => hK _ _ (h v' w' h1 h2))
end Go.Proofs.YtlcepoagpocadaaGreatDoor
