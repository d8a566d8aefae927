import Derived.Test.YtlcepoagpocadaaGreatDoorRows2
import Derived.Maps.Ext
import Derived.Maps.RangeWalk
set_option linter.unusedSimpArgs false
set_option linter.unusedVariables false
/- Maps from integers to pointers, of the program's own; a typed heap: what each block is good for. -/
namespace Go.Proofs.YtlcepoagpocadaaGreatDoor
open Go Go.RowKit Go.Maps Go.MapKept Go.ChangeMaps
/-- How a pointer in a map reads. -/
def ptrR (v : Value) : Option (DataW Unit × List MemPlace) := match v with
  | .pointer none => some (.nil, [])
  | .pointer (some ⟨c, 0, none⟩) => some (.lit (.int .i64 (c : Int)), [])
  | _ => none
theorem ptrR_mk (c : Nat) : ptrR (.pointer (some ⟨c, 0, none⟩)) = some (.lit (.int .i64 (c : Int)), []) := rfl
theorem ptrR_inv {v : Value} {y : DataW Unit × List MemPlace} (h : ptrR v = some y) : (v = .pointer none ∧ y = (.nil, [])) ∨ ∃ c : Nat, v = .pointer (some ⟨c, 0, none⟩) ∧ y = (.lit (.int .i64 (c : Int)), []) := by
  unfold ptrR at h
  split at h
  · cases h; exact .inl ⟨rfl, rfl⟩
  · cases h; exact .inr ⟨_, rfl, rfl⟩
  · cases h
/-- A row of keys with their blocks, as a datum. -/
def encE (x : Int × Nat) : Lit × DataW Unit := (.int .i64 x.1, .lit (.int .i64 (x.2 : Int)))
def DM (L : List (Int × Nat)) : DataW Unit := .map (L.map encE)
def insL (x : Int × Nat) : List (Int × Nat) → List (Int × Nat)
  | [] => [x]
  | y :: r => if x.1 < y.1 then x :: y :: r else y :: insL x r
def delL (p : Int) (L : List (Int × Nat)) : List (Int × Nat) := L.filter fun x => !decide (x.1 = p)
def putL (p : Int) (c : Nat) (L : List (Int × Nat)) : List (Int × Nat) := insL (p, c) (delL p L)
def getL (p : Int) : List (Int × Nat) → Option Nat
  | [] => none
  | y :: r => if y.1 = p then some y.2 else getL p r
theorem same_i (a b : Int) : Lit.sameKey (.int .i64 a) (.int .i64 b) = decide (a = b) := by simp [Lit.sameKey]
theorem before_i (a b : Int) : Lit.before (.int .i64 a) (.int .i64 b) = decide (a < b) := rfl
theorem ins_enc (x : Int × Nat) : ∀ L : List (Int × Nat), DataW.insert (encE x) (L.map encE) = (insL x L).map encE
  | [] => rfl
  | y :: r => by
    rw [List.map_cons, DataW.insert, insL]
    have e : (encE x).1.before (encE y).1 = decide (x.1 < y.1) := before_i _ _
    rw [e]
    by_cases h : x.1 < y.1
    · simp only [h, decide_true, if_true, List.map_cons]
    · simp only [h, decide_false, if_false, List.map_cons, Bool.false_eq_true, ins_enc x r]
theorem del_enc (p : Int) (L : List (Int × Nat)) : (DM L).del (.int .i64 p) = DM (delL p L) := by
  unfold DM DataW.del delL
  simp only
  congr 1
  induction L with
  | nil => rfl
  | cons y r ih =>
    rw [List.map_cons, List.filter_cons, List.filter_cons]
    have e : (encE y).1.sameKey (.int .i64 p) = decide (y.1 = p) := same_i _ _
    rw [e]
    by_cases h : y.1 = p
    · simp only [h, decide_true, Bool.not_true, Bool.false_eq_true, if_false]; exact ih
    · simp only [h, decide_false, Bool.not_false, if_true, List.map_cons, ih]
theorem put_enc (p : Int) (c : Nat) (L : List (Int × Nat)) : (DM L).put (.int .i64 p) (.lit (.int .i64 (c : Int))) = DM (putL p c L) := by
  have h := del_enc p L
  unfold DM DataW.del at h
  simp only [DataW.map.injEq] at h
  unfold DM DataW.put putL
  simp only [h]
  congr 1
  exact ins_enc (p, c) _
theorem at_enc (p : Int) (z : DataW Unit) : ∀ L : List (Int × Nat), (DM L).atKey (.int .i64 p) z = match getL p L with | some c => .lit (.int .i64 (c : Int)) | none => z
  | [] => rfl
  | y :: r => by
    have ih := at_enc p z r
    unfold DM DataW.atKey at ih ⊢
    simp only [List.map_cons, List.find?_cons] at ih ⊢
    have e : (encE y).1.sameKey (.int .i64 p) = decide (y.1 = p) := same_i _ _
    rw [e, getL]
    by_cases h : y.1 = p
    · simp only [h, decide_true, if_true]; rfl
    · simp only [h, decide_false, if_false]; exact ih
theorem has_enc (p : Int) : ∀ L : List (Int × Nat), Maps.has (DM L) (.int .i64 p) = (getL p L).isSome
  | [] => rfl
  | y :: r => by
    have ih := has_enc p r
    unfold DM at ih ⊢
    rw [has_eq] at ih ⊢
    rw [List.map_cons, List.any_cons, getL]
    have e : (encE y).1.sameKey (.int .i64 p) = decide (y.1 = p) := same_i _ _
    rw [e]
    by_cases h : y.1 = p
    · simp [h]
    · simp only [h, decide_false, Bool.false_or, if_false]; exact ih
/-- Block b is a map that reads as L. -/
def IMap (P : Program) (kt : TypeId) (w : World) (b : Nat) (L : List (Int × Nat)) : Prop := w.ownsMap P kt ptrR b L.length (DM L)
section
variable {P : Program} {kt t e : TypeId} {w w' : World} {b : Nat} {L : List (Int × Nat)}
theorem imap_tight {n : Nat} (h : w.ownsMap P kt ptrR b n (DM L)) : IMap P kt w b L := by
  obtain ⟨es, clock, hb, F, hs, hD⟩ := h
  refine ⟨es, clock, hb, F, ?_, hD⟩
  have e : DM L = .map (L.map encE) := rfl
  rw [e] at hD
  simp only [DataW.map.injEq] at hD
  have := congrArg List.length hD
  rw [length_sorted] at this
  simp at this
  omega
theorem IMap.lt (h : IMap P kt w b L) : b < w.heap.size := World.ownsMap.lt h
theorem IMap.mod {S : Nat → Prop} (h : IMap P kt w b L) (M : Mod S w w') (hs : ¬ S b) : IMap P kt w' b L := by
  have hlt := h.lt
  obtain ⟨es, clock, hb, F, hs', hD⟩ := h
  exact ⟨es, clock, (M.block b hlt hs).trans hb, F, hs', hD⟩
theorem IMap.made (w : World) : IMap P kt (w.alloc (.map #[] 0)) w.heap.size [] := World.ownsMap_made w P kt ptrR
/-- 'm[k]'. -/
theorem IMap.look (h : IMap P kt w b L) (hk : P.underlying kt = some (.int .i64)) (ht : P.underlying t = some (.map kt e)) (hz : (zeroValue e).run P w = .ok (.pointer none) w) (p : Int) (hp : (Lit.int .i64 p).wf = true) :
    (Instr.lookup t (.map (some b)) (.int .i64 p) false).run P w = .ok (.pointer ((getL p L).map fun c => ⟨c, 0, none⟩)) w := by
  obtain ⟨v, ps, hrun, hv⟩ := World.ownsMap.lookup h (int_keyed hk) ht hz (show ptrR (.pointer none) = some (.nil, []) from rfl) (keyOf_int_mk hk hp)
  rw [hrun]
  rw [at_enc] at hv
  cases hg : getL p L with
  | none =>
    rw [hg] at hv
    rcases ptrR_inv hv with ⟨rfl, _⟩ | ⟨c, rfl, hc⟩
    · rfl
    · simp at hc
  | some c =>
    rw [hg] at hv
    rcases ptrR_inv hv with ⟨rfl, hc⟩ | ⟨c', rfl, hc⟩
    · simp at hc
    · simp at hc
      obtain ⟨hc, _⟩ := hc
      have : c = c' := by omega
      subst this; rfl
/-- 'm[k] = v'. -/
theorem IMap.put (h : IMap P kt w b L) (hk : P.underlying kt = some (.int .i64)) (ht : P.underlying t = some (.map kt e)) (hn : L.length < 1000000) (p : Int) (hp : (Lit.int .i64 p).wf = true) (c : Nat) :
    ∃ w', (Instr.mapUpdate t (.map (some b)) (.int .i64 p) (.pointer (some ⟨c, 0, none⟩))).run P w = .ok () w' ∧ IMap P kt w' b (putL p c L) ∧ w.grownBy w' (some b) := by
  obtain ⟨w', h1, h2, h3⟩ := World.ownsMap.update h (int_keyed hk) ht (by unfold maxLen; omega) (keyOf_int_mk hk hp) (ptrR_mk c)
  rw [put_enc] at h2
  exact ⟨w', h1, imap_tight h2, h3⟩
/-- 'delete(m, k)'. -/
theorem IMap.del {ty : TypeId} (h : IMap P kt w b L) (hk : P.underlying kt = some (.int .i64)) (ht : P.underlying t = some (.map kt e)) (p : Int) (hp : (Lit.int .i64 p).wf = true) :
    ∃ w', (Builtin.delete_ #[t, kt] ty #[.map (some b), .int .i64 p]).run P w = .ok (.tuple #[]) w' ∧ IMap P kt w' b (delL p L) ∧ w.grownBy w' (some b) := by
  obtain ⟨es, clock, hb, F, hs, hD⟩ := h
  obtain ⟨es', hrun, F', hsz, hdel, _⟩ := Maps.fit_drop (ty := ty) (int_keyed hk) ht hb F (keyOf_int_mk hk hp)
  refine ⟨_, hrun, imap_tight (n := es'.size) ⟨es', clock, heap_setBlock_same hb _, F', Nat.le_refl _, ?_⟩, ⟨rfl, rfl, rfl, by simp [setBlock], fun i _ hi => heap_setBlock_other hb _ (fun e => hi (by rw [e]))⟩⟩
  rw [hdel, ← del_enc, hD]
  rfl
end
end Go.Proofs.YtlcepoagpocadaaGreatDoor
/- A typed heap: what each of the model's blocks is good for. -/
namespace Go.Proofs.YtlcepoagpocadaaGreatDoor
open Go Go.RowKit
/-- What a block is good for: nothing, a struct's cells, a map, a row of texts; each with a mark. -/
inductive Ob where
  | no
  | cl (tag : Nat) (cs : Array Value)
  | mp (tag : Nat) (L : List (Int × Nat))
  | rw (tag : Nat) (xs : List (List UInt8))
def txF (xs : List (List UInt8)) (i : Nat) : Value := .string ⟨(xs.getD i []).toArray⟩
def AtO (P : Program) (w : World) (b : Nat) : Ob → Prop
  | .no => True
  | .cl _ cs => Blk w b cs
  | .mp _ L => IMap P 3 w b L
  | .rw _ xs => RowV w b xs.length (txF xs)
def Holds (P : Program) (w : World) (H : Nat → Ob) : Prop := ∀ b, AtO P w b (H b)
section
variable {P : Program} {w w' : World} {H : Nat → Ob} {S K : Nat → Prop}
theorem AtO.lt {b : Nat} {o : Ob} (h : AtO P w b o) (hn : o ≠ .no) : b < w.heap.size := by
  cases o with
  | no => exact absurd rfl hn
  | cl _ _ => exact Blk.lt h
  | mp _ _ => exact IMap.lt h
  | rw _ _ => exact RowV.lt h
theorem AtO.mod {b : Nat} {o : Ob} (h : AtO P w b o) (M : Mod S w w') (hs : o ≠ .no → ¬ S b) : AtO P w' b o := by
  cases o with
  | no => trivial
  | cl _ _ => exact Blk.mod h M (hs (fun q => by cases q))
  | mp _ _ => exact IMap.mod h M (hs (fun q => by cases q))
  | rw _ _ => exact RowV.mod h M (hs (fun q => by cases q))
theorem Holds.lt (h : Holds P w H) {b : Nat} (hn : H b ≠ .no) : b < w.heap.size := (h b).lt hn
theorem Holds.new (h : Holds P w H) {b : Nat} (hb : w.heap.size ≤ b) : H b = .no := by
  by_cases q : H b = .no
  · exact q
  · have := h.lt q; omega
theorem Holds.mod (h : Holds P w H) (M : Mod S w w') (hs : ∀ b, S b → H b = .no) : Holds P w' H :=
  fun b => (h b).mod M (fun q r => q (hs b r))
theorem Holds.turn (h : Holds P w H) {b : Nat} {o : Ob} (M : Mod (fun i => i = b) w w') (ho : AtO P w' b o) : Holds P w' (upd H b o) := by
  intro i
  unfold upd
  by_cases q : i = b
  · rw [if_pos q, q]; exact ho
  · rw [if_neg q]; exact (h i).mod M (fun _ => q)
theorem Holds.turn' (h : Holds P w H) {b : Nat} {o : Ob} {row : Option Nat} (M : w.grownBy w' row) (hr : ∀ k, row = some k → k = b) (ho : AtO P w' b o) : Holds P w' (upd H b o) :=
  h.turn (Mod.grown (Mod.refl _ w) M (fun k hk _ => hr k hk)) ho
theorem upd_same {α : Type} (f : Nat → α) (i : Nat) (v : α) : upd f i v i = v := by unfold upd; rw [if_pos rfl]
theorem upd_ne {α : Type} (f : Nat → α) {i j : Nat} (v : α) (h : j ≠ i) : upd f i v j = f j := by unfold upd; rw [if_neg h]
end
end Go.Proofs.YtlcepoagpocadaaGreatDoor
/- A model's state, and the heap that holds it. -/
namespace Go.Proofs.YtlcepoagpocadaaGreatDoor
open Go Go.RowKit
/-- A volume: its block, its map's block, its number, its size, where it was taken from, whether it is pinned, its places with their chunks. -/
structure Vo where
  b : Nat
  pb : Nat
  id : Int
  size : Int
  fr : Int
  pin : Bool
  pl : List (Int × Nat)
/-- A model's state: sectors of a chunk, volumes by rising numbers, each chunk's sectors. -/
structure MS where
  k : Nat
  vols : List Vo
  sec : Nat → List (List UInt8)
def volC (v : Vo) : Array Value := #[.int .i64 v.id, .int .i64 v.size, .int .i64 0, .bool v.pin, .int .i64 v.fr, .map (some v.pb)]
def volsL (l : List Vo) : List (Int × Nat) := l.map fun v => (v.id, v.b)
def repV (v' : Vo) (l : List Vo) : List Vo := l.map fun u => if u.id = v'.id then v' else u
def insV (v : Vo) : List Vo → List Vo
  | [] => [v]
  | y :: r => if v.id < y.id then v :: y :: r else y :: insV v r
def remV (id : Int) (l : List Vo) : List Vo := l.filter fun u => !decide (u.id = id)
/-- A chunk's two blocks. -/
def ChO (H : Nat → Ob) (k : Nat) (sec : Nat → List (List UInt8)) (ow : Nat → Int) (c : Nat) : Prop :=
  ∃ g cap, H c = .cl 2 #[.slice (some ⟨g, 0, none⟩) k cap, .int .i64 (ow c)] ∧ H g = .rw c (sec c)
structure Abs (H : Nat → Ob) (m vm : Nat) (S : MS) (ow : Nat → Int) : Prop where
  hm : H m = .cl 0 #[.int .i64 (S.k : Int), .map (some vm)]
  hv : H vm = .mp m (volsL S.vols)
  hb : ∀ v ∈ S.vols, H v.b = .cl 1 (volC v)
  hp : ∀ v ∈ S.vols, H v.pb = .mp v.b v.pl
  hc : ∀ v ∈ S.vols, ∀ x ∈ v.pl, ChO H S.k S.sec ow x.2
  nd : S.vols.Pairwise fun a b => a.id < b.id
theorem ne_H {H : Nat → Ob} {i j : Nat} (h : H i ≠ H j) : i ≠ j := fun e => h (by rw [e])
theorem mem_repV {v' u : Vo} {l : List Vo} (h : u ∈ repV v' l) : u = v' ∨ (u ∈ l ∧ u.id ≠ v'.id) := by
  unfold repV at h
  obtain ⟨x, hx, e⟩ := List.mem_map.1 h
  by_cases q : x.id = v'.id
  · rw [if_pos q] at e; exact .inl e.symm
  · rw [if_neg q] at e; subst e; exact .inr ⟨hx, q⟩
theorem pw_ne {l : List Vo} (h : l.Pairwise fun a b => a.id < b.id) {u v : Vo} (hu : u ∈ l) (hv : v ∈ l) (e : u.id = v.id) : u = v := by
  induction l with
  | nil => cases hu
  | cons x r ih =>
    obtain ⟨h1, h2⟩ := List.pairwise_cons.1 h
    rcases List.mem_cons.1 hu with e1 | hu
    · rcases List.mem_cons.1 hv with e2 | hv
      · rw [e1, e2]
      · have := h1 v hv; rw [← e1] at this; omega
    · rcases List.mem_cons.1 hv with e2 | hv
      · have := h1 u hu; rw [← e2] at this; omega
      · exact ih h2 hu hv
theorem rep_ids (v' : Vo) (l : List Vo) : (repV v' l).map Vo.id = l.map Vo.id := by
  unfold repV
  rw [List.map_map]
  apply List.map_congr_left
  intro u _
  simp only [Function.comp]
  by_cases q : u.id = v'.id
  · rw [if_pos q, q]
  · rw [if_neg q]
theorem pw_ids {l l' : List Vo} (e : l.map Vo.id = l'.map Vo.id) (h : l'.Pairwise fun a b => a.id < b.id) : l.Pairwise fun a b => a.id < b.id := by
  have := List.pairwise_map.2 (show l'.Pairwise (fun a b => Vo.id a < Vo.id b) from h)
  rw [← e] at this
  exact List.pairwise_map.1 this
theorem volsL_rep {v v' : Vo} {l : List Vo} (nd : l.Pairwise fun a b => a.id < b.id) (hv : v ∈ l) (e1 : v'.id = v.id) (e2 : v'.b = v.b) : volsL (repV v' l) = volsL l := by
  unfold volsL repV
  rw [List.map_map]
  apply List.map_congr_left
  intro u hu
  simp only [Function.comp]
  by_cases q : u.id = v'.id
  · rw [if_pos q, e1, e2]
    have := pw_ne nd hu hv (by rw [q, e1])
    rw [this]
  · rw [if_neg q]
section
variable {H H' : Nat → Ob} {m vm : Nat} {S : MS} {ow ow' : Nat → Int} {v v' : Vo}
theorem ChO.far {k : Nat} {sec : Nat → List (List UInt8)} {c : Nat} (h : ChO H k sec ow c) (h3 : ∀ i, (∀ tag cs, H i = .cl tag cs → tag = 2) → (∀ tag L, H i ≠ .mp tag L) → H' i = H i) : ChO H' k sec ow c := by
  obtain ⟨g, cap, h1, h2⟩ := h
  refine ⟨g, cap, ?_, ?_⟩
  · rw [h3 c (fun tag cs e => by rw [h1] at e; cases e; rfl) (fun tag L e => by rw [h1] at e; cases e)]; exact h1
  · rw [h3 g (fun tag cs e => by rw [h2] at e; cases e) (fun tag L e => by rw [h2] at e; cases e)]; exact h2
/-- One volume's cells and its map are others. -/
theorem Abs.rep (A : Abs H m vm S ow) (hv : v ∈ S.vols) (e1 : v'.id = v.id) (e2 : v'.b = v.b) (e3 : v'.pb = v.pb) (h1 : H' v.b = .cl 1 (volC v')) (h2 : H' v.pb = .mp v.b v'.pl)
    (h3 : ∀ i, i ≠ v.b → i ≠ v.pb → H' i = H i) (h4 : ∀ x ∈ v'.pl, ChO H S.k S.sec ow x.2) : Abs H' m vm { S with vols := repV v' S.vols } ow := by
  have hb := A.hb v hv
  have hp := A.hp v hv
  have c4 : ∀ c, ChO H S.k S.sec ow c → ChO H' S.k S.sec ow c := fun c h => h.far (fun i q1 q2 => h3 i (fun e => by
    rw [e] at q1; have := q1 _ _ hb; omega) (fun e => by rw [e] at q2; exact q2 _ _ hp))
  refine ⟨?_, ?_, ?_, ?_, ?_, ?_⟩
  · rw [h3 m (ne_H (H := H) (by rw [A.hm, hb]; simp)) (ne_H (H := H) (by rw [A.hm, hp]; simp))]; exact A.hm
  · rw [h3 vm (ne_H (H := H) (by rw [A.hv, hb]; simp)) (ne_H (H := H) (by rw [A.hv, hp]; intro e; injection e with e _; exact absurd e (ne_H (H := H) (by rw [A.hm, hb]; simp))))]
    show H vm = .mp m (volsL (repV v' S.vols))
    rw [volsL_rep A.nd hv e1 e2]; exact A.hv
  · intro u hu
    rcases mem_repV hu with rfl | ⟨hu, hne⟩
    · rw [e2]; exact h1
    · rw [h3 u.b (ne_H (H := H) (by rw [A.hb u hu, hb]; intro e; injection e with _ e; unfold volC at e; simp at e; exact hne (by rw [e1]; exact e.1))) (ne_H (H := H) (by rw [A.hb u hu, hp]; simp))]
      exact A.hb u hu
  · intro u hu
    rcases mem_repV hu with rfl | ⟨hu, hne⟩
    · rw [e3, e2]; exact h2
    · have hbb : u.b ≠ v.b := ne_H (H := H) (by rw [A.hb u hu, hb]; intro e; injection e with _ e; unfold volC at e; simp at e; exact hne (by rw [e1]; exact e.1))
      rw [h3 u.pb (ne_H (H := H) (by rw [A.hp u hu, hb]; simp)) (ne_H (H := H) (by rw [A.hp u hu, hp]; intro e; injection e with e _; exact hbb e))]
      exact A.hp u hu
  · intro u hu x hx
    rcases mem_repV hu with rfl | ⟨hu, hne⟩
    · exact c4 _ (h4 x hx)
    · exact c4 _ (A.hc u hu x hx)
  · exact pw_ids (rep_ids v' S.vols) A.nd
/-- A chunk's count is another one. -/
theorem Abs.owner (A : Abs H m vm S ow) {c g cap : Nat} {n : Int} (h1 : H c = .cl 2 #[.slice (some ⟨g, 0, none⟩) S.k cap, .int .i64 (ow c)]) (e : H' = upd H c (.cl 2 #[.slice (some ⟨g, 0, none⟩) S.k cap, .int .i64 n])) : Abs H' m vm S (upd ow c n) := by
  subst e
  have far : ∀ i, H i ≠ H c → upd H c (.cl 2 #[.slice (some ⟨g, 0, none⟩) S.k cap, .int .i64 n]) i = H i := fun i q => upd_ne _ _ (ne_H q)
  refine ⟨?_, ?_, ?_, ?_, ?_, A.nd⟩
  · rw [far m (by rw [A.hm, h1]; simp)]; exact A.hm
  · rw [far vm (by rw [A.hv, h1]; simp)]; exact A.hv
  · intro u hu; rw [far u.b (by rw [A.hb u hu, h1]; simp)]; exact A.hb u hu
  · intro u hu; rw [far u.pb (by rw [A.hp u hu, h1]; simp)]; exact A.hp u hu
  · intro u hu x hx
    obtain ⟨g', cap', q1, q2⟩ := A.hc u hu x hx
    by_cases qc : x.2 = c
    · rw [qc] at q1 q2 ⊢
      rw [h1] at q1
      injection q1 with _ q1
      simp at q1
      obtain ⟨rfl, rfl⟩ := q1
      refine ⟨g, cap, ?_, ?_⟩
      · rw [upd_same, upd_same]
      · rw [far g (by rw [q2, h1]; simp)]; exact q2
    · refine ⟨g', cap', ?_, ?_⟩
      · rw [upd_ne _ _ qc, upd_ne _ _ qc]; exact q1
      · rw [far g' (by rw [q2, h1]; simp)]; exact q2
/-- A chunk's sectors are others. -/
theorem Abs.sect (A : Abs H m vm S ow) {c g cap : Nat} {n : Int} {xs : List (List UInt8)} (h1 : H c = .cl 2 #[.slice (some ⟨g, 0, none⟩) S.k cap, .int .i64 n]) (h2 : H g = .rw c (S.sec c)) (e : H' = upd H g (.rw c xs)) : Abs H' m vm { S with sec := upd S.sec c xs } ow := by
  subst e
  have far : ∀ i, H i ≠ H g → upd H g (.rw c xs) i = H i := fun i q => upd_ne _ _ (ne_H q)
  refine ⟨?_, ?_, ?_, ?_, ?_, A.nd⟩
  · rw [far m (by rw [A.hm, h2]; simp)]; exact A.hm
  · rw [far vm (by rw [A.hv, h2]; simp)]; exact A.hv
  · intro u hu; rw [far u.b (by rw [A.hb u hu, h2]; simp)]; exact A.hb u hu
  · intro u hu; rw [far u.pb (by rw [A.hp u hu, h2]; simp)]; exact A.hp u hu
  · intro u hu x hx
    obtain ⟨g', cap', q1, q2⟩ := A.hc u hu x hx
    refine ⟨g', cap', ?_, ?_⟩
    · rw [far x.2 (by rw [q1, h2]; simp)]; exact q1
    · by_cases qg : g' = g
      · subst qg
        rw [h2] at q2
        injection q2 with q2 _
        rw [upd_same, ← q2]
        show _ = Ob.rw c (upd S.sec c xs c)
        rw [upd_same]
      · rw [upd_ne _ _ qg]
        have : x.2 ≠ c := fun e => by
          rw [e, h1] at q1
          injection q1 with _ q1
          simp at q1
        show _ = Ob.rw x.2 (upd S.sec c xs x.2)
        rw [upd_ne _ _ this]; exact q2
/-- A block that was nothing is something. -/
theorem Abs.more (A : Abs H m vm S ow) {b : Nat} {o : Ob} (h : H b = .no) : Abs (upd H b o) m vm S ow := by
  have far : ∀ i, H i ≠ .no → upd H b o i = H i := fun i q => upd_ne _ _ (fun e => q (by rw [e]; exact h))
  refine ⟨?_, ?_, ?_, ?_, ?_, A.nd⟩
  · rw [far m (by rw [A.hm]; simp)]; exact A.hm
  · rw [far vm (by rw [A.hv]; simp)]; exact A.hv
  · intro u hu; rw [far u.b (by rw [A.hb u hu]; simp)]; exact A.hb u hu
  · intro u hu; rw [far u.pb (by rw [A.hp u hu]; simp)]; exact A.hp u hu
  · intro u hu x hx
    obtain ⟨g', cap', q1, q2⟩ := A.hc u hu x hx
    exact ⟨g', cap', by rw [far x.2 (by rw [q1]; simp)]; exact q1, by rw [far g' (by rw [q2]; simp)]; exact q2⟩
end
end Go.Proofs.YtlcepoagpocadaaGreatDoor
/- A model in memory: a volume more, a volume less; what others do to the heap. -/
namespace Go.Proofs.YtlcepoagpocadaaGreatDoor
open Go Go.RowKit
theorem getL_none {p : Int} : ∀ {L : List (Int × Nat)}, getL p L = none ↔ ∀ x ∈ L, x.1 ≠ p
  | [] => by simp [getL]
  | y :: r => by
    rw [getL]
    by_cases h : y.1 = p
    · rw [if_pos h]; simp [h]
    · rw [if_neg h, getL_none]; simp [h]
theorem getL_mem {p : Int} {c : Nat} : ∀ {L : List (Int × Nat)}, getL p L = some c → (p, c) ∈ L
  | [], h => by simp [getL] at h
  | y :: r, h => by
    rw [getL] at h
    by_cases q : y.1 = p
    · rw [if_pos q] at h; cases h; rw [← q]; simp
    · rw [if_neg q] at h; exact List.mem_cons_of_mem _ (getL_mem h)
theorem delL_id {p : Int} {L : List (Int × Nat)} (h : getL p L = none) : delL p L = L := by
  unfold delL
  rw [List.filter_eq_self]
  intro x hx
  simp [getL_none.1 h x hx]
theorem mem_delL {p : Int} {L : List (Int × Nat)} {x : Int × Nat} : x ∈ delL p L ↔ x ∈ L ∧ x.1 ≠ p := by unfold delL; simp
theorem mem_insL {y x : Int × Nat} : ∀ {L : List (Int × Nat)}, x ∈ insL y L ↔ x = y ∨ x ∈ L
  | [] => by simp [insL]
  | z :: r => by
    rw [insL]
    split
    · simp
    · rw [List.mem_cons, mem_insL, List.mem_cons]
      constructor
      · rintro (h | h | h)
        · exact .inr (.inl h)
        · exact .inl h
        · exact .inr (.inr h)
      · rintro (h | h | h)
        · exact .inr (.inl h)
        · exact .inl h
        · exact .inr (.inr h)
theorem mem_putL {p : Int} {c : Nat} {L : List (Int × Nat)} {x : Int × Nat} : x ∈ putL p c L ↔ x = (p, c) ∨ (x ∈ L ∧ x.1 ≠ p) := by
  unfold putL; rw [mem_insL, mem_delL]
theorem getL_del {p q : Int} (L : List (Int × Nat)) : getL q (delL p L) = if q = p then none else getL q L := by
  induction L with
  | nil => simp [delL, getL]
  | cons y r ih =>
    unfold delL at ih ⊢
    rw [List.filter_cons]
    by_cases h : y.1 = p
    · simp only [h, decide_true, Bool.not_true, Bool.false_eq_true, if_false, getL]
      rw [ih]
      by_cases h2 : q = p
      · simp [h2]
      · rw [if_neg h2, if_neg h2, if_neg (fun e => h2 e.symm)]
    · simp only [h, decide_false, Bool.not_false, if_true, getL]
      rw [ih]
      by_cases h2 : y.1 = q
      · rw [if_pos h2, if_pos h2, if_neg (fun e => h (h2.trans e))]
      · rw [if_neg h2, if_neg h2]
theorem getL_ins {p : Int} {c : Nat} {q : Int} : ∀ {L : List (Int × Nat)}, getL p L = none → getL q (insL (p, c) L) = if q = p then some c else getL q L
  | [], _ => by
    simp only [insL, getL]
    by_cases h : q = p
    · simp [h]
    · rw [if_neg h, if_neg (fun e => h e.symm)]
  | y :: r, h => by
    have hy := getL_none.1 h y (by simp)
    have hr : getL p r = none := getL_none.2 (fun x hx => getL_none.1 h x (by simp [hx]))
    rw [insL]
    split
    · simp only [getL]
      by_cases e : q = p
      · simp [e]
      · rw [if_neg e, if_neg (fun r => e r.symm)]
    · rw [getL, getL_ins hr, getL]
      by_cases e : y.1 = q
      · rw [if_pos e, if_pos e, if_neg (fun r => hy (e.trans r))]
      · rw [if_neg e, if_neg e]
theorem getL_put {p q : Int} {c : Nat} (L : List (Int × Nat)) : getL q (putL p c L) = if q = p then some c else getL q L := by
  unfold putL
  rw [getL_ins (by rw [getL_del, if_pos rfl]), getL_del]
  by_cases h : q = p
  · rw [if_pos h, if_pos h]
  · rw [if_neg h, if_neg h, if_neg h]
/-- Rising keys. -/
def Rise (L : List (Int × Nat)) : Prop := L.Pairwise fun a b => a.1 < b.1
theorem Rise.del {L : List (Int × Nat)} (h : Rise L) (p : Int) : Rise (delL p L) := List.Pairwise.filter _ h
theorem Rise.ins {x : Int × Nat} : ∀ {L : List (Int × Nat)}, Rise L → (∀ y ∈ L, y.1 ≠ x.1) → Rise (insL x L)
  | [], _, _ => by simp [insL, Rise]
  | y :: r, h, hn => by
    unfold Rise at h ⊢
    obtain ⟨h1, h2⟩ := List.pairwise_cons.1 h
    rw [insL]
    split
    · rename_i q
      refine List.pairwise_cons.2 ⟨?_, h⟩
      intro z hz
      rcases List.mem_cons.1 hz with rfl | hz
      · exact q
      · have := h1 z hz; omega
    · rename_i q
      refine List.pairwise_cons.2 ⟨?_, Rise.ins h2 (fun z hz => hn z (by simp [hz]))⟩
      intro z hz
      rcases mem_insL.1 hz with rfl | hz
      · have := hn y (by simp); omega
      · exact h1 z hz
theorem Rise.put {L : List (Int × Nat)} (h : Rise L) (p : Int) (c : Nat) : Rise (putL p c L) :=
  Rise.ins (h.del p) (fun y hy => (mem_delL.1 hy).2)
theorem Rise.get {L : List (Int × Nat)} (h : Rise L) {x : Int × Nat} (hx : x ∈ L) : getL x.1 L = some x.2 := by
  induction L with
  | nil => cases hx
  | cons y r ih =>
    obtain ⟨h1, h2⟩ := List.pairwise_cons.1 h
    rw [getL]
    rcases List.mem_cons.1 hx with e | hx
    · rw [if_pos (by rw [e]), e]
    · have := h1 x hx
      rw [if_neg (by omega)]; exact ih h2 hx
theorem Rise.len {n : Int} : ∀ {L : List (Int × Nat)} {t : Int}, Rise L → (∀ x ∈ L, t ≤ x.1 ∧ x.1 < n) → t ≤ n → (L.length : Int) ≤ n - t
  | [], t, _, _, h => by simp; omega
  | y :: r, t, h, hb, ht => by
    obtain ⟨h1, h2⟩ := List.pairwise_cons.1 h
    have hy := hb y (by simp)
    have := Rise.len (L := r) (t := y.1 + 1) h2 (fun x hx => ⟨by have := h1 x hx; omega, (hb x (by simp [hx])).2⟩) (by omega)
    rw [List.length_cons]; omega
/-- Volumes. -/
theorem mem_insV {v u : Vo} : ∀ {l : List Vo}, u ∈ insV v l ↔ u = v ∨ u ∈ l
  | [] => by simp [insV]
  | z :: r => by
    rw [insV]
    split
    · simp
    · rw [List.mem_cons, mem_insV, List.mem_cons]
      constructor
      · rintro (h | h | h)
        · exact .inr (.inl h)
        · exact .inl h
        · exact .inr (.inr h)
      · rintro (h | h | h)
        · exact .inr (.inl h)
        · exact .inl h
        · exact .inr (.inr h)
theorem insV_pw {v : Vo} : ∀ {l : List Vo}, (l.Pairwise fun a b => a.id < b.id) → (∀ u ∈ l, u.id ≠ v.id) → (insV v l).Pairwise fun a b => a.id < b.id
  | [], _, _ => by simp [insV]
  | y :: r, h, hn => by
    obtain ⟨h1, h2⟩ := List.pairwise_cons.1 h
    rw [insV]
    split
    · rename_i q
      refine List.pairwise_cons.2 ⟨?_, h⟩
      intro z hz
      rcases List.mem_cons.1 hz with rfl | hz
      · exact q
      · have := h1 z hz; omega
    · rename_i q
      refine List.pairwise_cons.2 ⟨?_, insV_pw h2 (fun z hz => hn z (by simp [hz]))⟩
      intro z hz
      rcases mem_insV.1 hz with rfl | hz
      · have := hn y (by simp); omega
      · exact h1 z hz
theorem volsL_ins {v : Vo} : ∀ l : List Vo, volsL (insV v l) = insL (v.id, v.b) (volsL l)
  | [] => rfl
  | y :: r => by
    rw [insV]
    unfold volsL at *
    rw [List.map_cons, insL]
    by_cases h : v.id < y.id
    · rw [if_pos h, if_pos h]; rfl
    · rw [if_neg h, if_neg h, List.map_cons]
      congr 1
      exact volsL_ins r
theorem volsL_rem (id : Int) (l : List Vo) : volsL (remV id l) = delL id (volsL l) := by
  unfold volsL remV delL
  rw [List.filter_map]
  rfl
theorem mem_remV {id : Int} {l : List Vo} {u : Vo} : u ∈ remV id l ↔ u ∈ l ∧ u.id ≠ id := by unfold remV; simp
theorem getL_vols {id : Int} {b : Nat} {l : List Vo} (h : getL id (volsL l) = some b) : ∃ v ∈ l, v.id = id ∧ v.b = b := by
  have := getL_mem h
  unfold volsL at this
  obtain ⟨v, hv, e⟩ := List.mem_map.1 this
  injection e with e1 e2
  exact ⟨v, hv, e1, e2⟩
theorem getL_vols_none {id : Int} {l : List Vo} (h : getL id (volsL l) = none) : ∀ v ∈ l, v.id ≠ id := by
  intro v hv e
  exact getL_none.1 h (v.id, v.b) (List.mem_map.2 ⟨v, hv, rfl⟩) e
theorem vols_rise {l : List Vo} (h : l.Pairwise fun a b => a.id < b.id) : Rise (volsL l) := by
  unfold Rise volsL
  exact List.pairwise_map.2 h
section
variable {H H' : Nat → Ob} {m vm : Nat} {S : MS} {ow ow' : Nat → Int} {v v' : Vo}
/-- A volume more. -/
theorem Abs.add (A : Abs H m vm S ow) (h0 : getL v.id (volsL S.vols) = none) (h1 : H v.b = .cl 1 (volC v)) (h2 : H v.pb = .mp v.b v.pl) (h4 : ∀ x ∈ v.pl, ChO H S.k S.sec ow x.2)
    (e : H' = upd H vm (.mp m (putL v.id v.b (volsL S.vols)))) : Abs H' m vm { S with vols := insV v S.vols } ow := by
  subst e
  have hne : m ≠ v.b := ne_H (H := H) (by rw [A.hm, h1]; simp)
  have far : ∀ i, H i ≠ H vm → upd H vm (.mp m (putL v.id v.b (volsL S.vols))) i = H i := fun i q => upd_ne _ _ (ne_H q)
  have ck : ∀ c, ChO H S.k S.sec ow c → ChO (upd H vm (.mp m (putL v.id v.b (volsL S.vols)))) S.k S.sec ow c := fun c ⟨g, cap, q1, q2⟩ =>
    ⟨g, cap, by rw [far c (by rw [q1, A.hv]; simp)]; exact q1, by rw [far g (by rw [q2, A.hv]; simp)]; exact q2⟩
  have hbp : ∀ u, H u.b = .cl 1 (volC u) → H u.pb = .mp u.b u.pl → H u.pb ≠ H vm := fun u q1 q2 => by
    rw [q2, A.hv]; intro e; injection e with e _; exact absurd e.symm (ne_H (H := H) (by rw [A.hm, q1]; simp))
  refine ⟨?_, ?_, ?_, ?_, ?_, insV_pw A.nd (getL_vols_none h0)⟩
  · rw [far m (by rw [A.hm, A.hv]; simp)]; exact A.hm
  · rw [upd_same]
    show _ = Ob.mp m (volsL (insV v S.vols))
    rw [volsL_ins]; unfold putL; rw [delL_id h0]
  · intro u hu
    rcases mem_insV.1 hu with rfl | hu
    · rw [far u.b (by rw [h1, A.hv]; simp)]; exact h1
    · rw [far u.b (by rw [A.hb u hu, A.hv]; simp)]; exact A.hb u hu
  · intro u hu
    rcases mem_insV.1 hu with rfl | hu
    · rw [far u.pb (hbp u h1 h2)]; exact h2
    · rw [far u.pb (hbp u (A.hb u hu) (A.hp u hu))]; exact A.hp u hu
  · intro u hu x hx
    rcases mem_insV.1 hu with rfl | hu
    · exact ck _ (h4 x hx)
    · exact ck _ (A.hc u hu x hx)
/-- A volume less. -/
theorem Abs.less (A : Abs H m vm S ow) (id : Int) (e : H' = upd H vm (.mp m (delL id (volsL S.vols)))) : Abs H' m vm { S with vols := remV id S.vols } ow := by
  subst e
  have far : ∀ i, H i ≠ H vm → upd H vm (.mp m (delL id (volsL S.vols))) i = H i := fun i q => upd_ne _ _ (ne_H q)
  refine ⟨?_, ?_, ?_, ?_, ?_, List.Pairwise.filter _ A.nd⟩
  · rw [far m (by rw [A.hm, A.hv]; simp)]; exact A.hm
  · rw [upd_same, ← volsL_rem]
  · intro u hu
    have hu := (mem_remV.1 hu).1
    rw [far u.b (by rw [A.hb u hu, A.hv]; simp)]; exact A.hb u hu
  · intro u hu
    have hu := (mem_remV.1 hu).1
    rw [far u.pb (by rw [A.hp u hu, A.hv]; intro e; injection e with e _; exact absurd e.symm (ne_H (H := H) (by rw [A.hm, A.hb u hu]; simp)))]; exact A.hp u hu
  · intro u hu x hx
    obtain ⟨g, cap, q1, q2⟩ := A.hc u (mem_remV.1 hu).1 x hx
    exact ⟨g, cap, by rw [far x.2 (by rw [q1, A.hv]; simp)]; exact q1, by rw [far g (by rw [q2, A.hv]; simp)]; exact q2⟩
end
/-- A model in memory; K: the blocks that the caller keeps. -/
def Mem (P : Program) (K : Nat → Prop) (w : World) (m : Nat) (S : MS) (ow : Nat → Int) : Prop :=
  ∃ H vm, Holds P w H ∧ (∀ b, H b ≠ .no → ¬ K b) ∧ (∀ i, K i → i < w.heap.size) ∧ Abs H m vm S ow
section
variable {P : Program} {K K' : Nat → Prop} {w w' : World} {m : Nat} {S : MS} {ow : Nat → Int}
theorem Mem.mod {T : Nat → Prop} (h : Mem P K w m S ow) (M : Mod T w w') (hT : ∀ b, b < w.heap.size → T b → K b) : Mem P K w' m S ow := by
  obtain ⟨H, vm, h1, h2, h3, A⟩ := h
  refine ⟨H, vm, fun b => (h1 b).mod M (fun q r => ?_), h2, fun i q => Nat.lt_of_lt_of_le (h3 i q) M.size, A⟩
  exact h2 b q (hT b (h1.lt q) r)
theorem Mem.same (h : Mem P K w m S ow) (M : Same w w') : Mem P K w' m S ow := h.mod M (fun _ _ q => q.elim)
theorem Mem.more (h : Mem P K w m S ow) (M : Same w w') : Mem P (fun i => K i ∨ (w.heap.size ≤ i ∧ i < w'.heap.size)) w' m S ow := by
  obtain ⟨H, vm, h1, h2, h3, A⟩ := h
  refine ⟨H, vm, fun b => (h1 b).mod M (fun q r => r), fun b q r => r.elim (h2 b q) (fun r => ?_), fun i q => q.elim (fun q => Nat.lt_of_lt_of_le (h3 i q) M.size) (fun q => q.2), A⟩
  have := h1.lt q
  omega
theorem Mem.less (h : Mem P K w m S ow) (c : ∀ i, K' i → K i) : Mem P K' w m S ow := by
  obtain ⟨H, vm, h1, h2, h3, A⟩ := h
  exact ⟨H, vm, h1, fun b q r => h2 b q (c b r), fun i q => h3 i (c i q), A⟩
end
end Go.Proofs.YtlcepoagpocadaaGreatDoor
/- How many places have a chunk. -/
namespace Go.Proofs.YtlcepoagpocadaaGreatDoor
open Go Go.RowKit
def cntL (c : Nat) (L : List (Int × Nat)) : Nat := (L.filter fun x => decide (x.2 = c)).length
def cnt (l : List Vo) (c : Nat) : Nat := (l.map fun v => cntL c v.pl).sum
theorem cntL_nil (c : Nat) : cntL c [] = 0 := rfl
theorem cntL_cons (c : Nat) (x : Int × Nat) (L : List (Int × Nat)) : cntL c (x :: L) = (if x.2 = c then 1 else 0) + cntL c L := by
  unfold cntL
  rw [List.filter_cons]
  by_cases h : x.2 = c
  · simp [h]; omega
  · simp [h]
theorem cntL_ins (c : Nat) (x : Int × Nat) : ∀ L : List (Int × Nat), cntL c (insL x L) = (if x.2 = c then 1 else 0) + cntL c L
  | [] => by rw [insL, cntL_cons]
  | y :: r => by
    rw [insL]
    split
    · rw [cntL_cons]
    · rw [cntL_cons, cntL_ins c x r, cntL_cons]; omega
theorem cntL_del {p : Int} (c : Nat) : ∀ {L : List (Int × Nat)}, Rise L → cntL c (delL p L) + (if getL p L = some c then 1 else 0) = cntL c L
  | [], _ => by simp [delL, getL, cntL]
  | y :: r, h => by
    obtain ⟨h1, h2⟩ := List.pairwise_cons.1 h
    have ih := cntL_del (p := p) c (L := r) h2
    rw [cntL_cons, getL]
    unfold delL at ih ⊢
    rw [List.filter_cons]
    by_cases q : y.1 = p
    · have hn : getL p r = none := getL_none.2 (fun x hx => by have := h1 x hx; omega)
      rw [hn] at ih
      simp only [q, decide_true, Bool.not_true, Bool.false_eq_true, if_false, if_true, reduceCtorEq] at ih ⊢
      by_cases e : y.2 = c
      · simp only [e, if_true]; omega
      · rw [if_neg e, if_neg (fun r => e (Option.some.inj r))]; omega
    · simp only [q, decide_false, Bool.not_false, if_true, if_false]
      rw [cntL_cons]; omega
theorem cntL_put {p : Int} {d : Nat} (c : Nat) {L : List (Int × Nat)} (h : Rise L) : cntL c (putL p d L) + (if getL p L = some c then 1 else 0) = (if d = c then 1 else 0) + cntL c L := by
  unfold putL
  rw [cntL_ins]
  dsimp only
  have := cntL_del (p := p) c h
  omega
theorem cntL_pos {c : Nat} {L : List (Int × Nat)} : 0 < cntL c L ↔ ∃ x ∈ L, x.2 = c := by
  unfold cntL
  rw [List.length_pos_iff_exists_mem]
  constructor
  · rintro ⟨x, hx⟩
    have := List.mem_filter.1 hx
    exact ⟨x, this.1, of_decide_eq_true this.2⟩
  · rintro ⟨x, hx, e⟩
    exact ⟨x, List.mem_filter.2 ⟨hx, decide_eq_true e⟩⟩
theorem cnt_cons (v : Vo) (l : List Vo) (c : Nat) : cnt (v :: l) c = cntL c v.pl + cnt l c := by unfold cnt; rw [List.map_cons, List.sum_cons]
theorem cnt_pos {c : Nat} : ∀ {l : List Vo}, 0 < cnt l c ↔ ∃ v ∈ l, ∃ x ∈ v.pl, x.2 = c
  | [] => by simp [cnt]
  | v :: l => by
    rw [cnt_cons]
    constructor
    · intro h
      by_cases q : 0 < cntL c v.pl
      · exact ⟨v, by simp, cntL_pos.1 q⟩
      · obtain ⟨u, hu, hx⟩ := cnt_pos.1 (show 0 < cnt l c by omega)
        exact ⟨u, by simp [hu], hx⟩
    · rintro ⟨u, hu, hx⟩
      rcases List.mem_cons.1 hu with rfl | hu
      · have := cntL_pos.2 hx; omega
      · have := cnt_pos.2 ⟨u, hu, hx⟩; omega
theorem cnt_ins (v : Vo) (c : Nat) : ∀ l : List Vo, cnt (insV v l) c = cntL c v.pl + cnt l c
  | [] => by rw [insV, cnt_cons]
  | y :: r => by
    rw [insV]
    split
    · rw [cnt_cons]
    · rw [cnt_cons, cnt_ins v c r, cnt_cons]; omega
theorem repV_no {v' : Vo} {l : List Vo} (h : ∀ u ∈ l, u.id ≠ v'.id) : repV v' l = l := by
  unfold repV
  conv => rhs; rw [← List.map_id l]
  apply List.map_congr_left
  intro u hu
  rw [if_neg (h u hu)]; rfl
theorem remV_no {id : Int} {l : List Vo} (h : ∀ u ∈ l, u.id ≠ id) : remV id l = l := by
  unfold remV
  rw [List.filter_eq_self]
  intro u hu
  simp [h u hu]
theorem cnt_rep {v v' : Vo} (c : Nat) : ∀ {l : List Vo}, (l.Pairwise fun a b => a.id < b.id) → v ∈ l → v'.id = v.id → cnt (repV v' l) c + cntL c v.pl = cnt l c + cntL c v'.pl
  | [], _, h, _ => by cases h
  | y :: r, h, hv, e => by
    obtain ⟨h1, h2⟩ := List.pairwise_cons.1 h
    have hc : repV v' (y :: r) = (if y.id = v'.id then v' else y) :: repV v' r := rfl
    rw [hc, cnt_cons, cnt_cons]
    rcases List.mem_cons.1 hv with rfl | hv
    · rw [if_pos e.symm, repV_no (fun u hu => by have := h1 u hu; omega)]; omega
    · have := h1 v hv
      rw [if_neg (by omega)]
      have ih := cnt_rep c h2 hv e
      omega
theorem cnt_rem {v : Vo} (c : Nat) : ∀ {l : List Vo}, (l.Pairwise fun a b => a.id < b.id) → v ∈ l → cnt (remV v.id l) c + cntL c v.pl = cnt l c
  | [], _, h => by cases h
  | y :: r, h, hv => by
    obtain ⟨h1, h2⟩ := List.pairwise_cons.1 h
    unfold remV
    rw [List.filter_cons, cnt_cons]
    rcases List.mem_cons.1 hv with rfl | hv
    · have := remV_no (id := v.id) (l := r) (fun u hu => by have := h1 u hu; omega)
      unfold remV at this
      simp only [decide_true, Bool.not_true, Bool.false_eq_true, if_false]
      rw [this]; omega
    · have := h1 v hv
      have hne : ¬ y.id = v.id := by omega
      simp only [hne, decide_false, Bool.not_false, if_true]
      rw [cnt_cons]
      have ih := cnt_rem c h2 hv
      unfold remV at ih
      omega
/-- A model in memory, each chunk's count right. -/
def Md (P : Program) (K : Nat → Prop) (w : World) (m : Nat) (S : MS) : Prop := ∃ ow, Mem P K w m S ow ∧ ∀ c, 0 < cnt S.vols c → ow c = (cnt S.vols c : Int)
section
variable {P : Program} {K K' : Nat → Prop} {w w' : World} {m : Nat} {S : MS}
theorem Md.mod {T : Nat → Prop} (h : Md P K w m S) (M : Mod T w w') (hT : ∀ b, b < w.heap.size → T b → K b) : Md P K w' m S := by
  obtain ⟨ow, h, e⟩ := h
  exact ⟨ow, h.mod M hT, e⟩
theorem Md.same (h : Md P K w m S) (M : Same w w') : Md P K w' m S := h.mod M (fun _ _ q => q.elim)
theorem Md.more (h : Md P K w m S) (M : Same w w') : Md P (fun i => K i ∨ (w.heap.size ≤ i ∧ i < w'.heap.size)) w' m S := by
  obtain ⟨ow, h, e⟩ := h
  exact ⟨ow, h.more M, e⟩
theorem Md.less (h : Md P K w m S) (c : ∀ i, K' i → K i) : Md P K' w m S := by
  obtain ⟨ow, h, e⟩ := h
  exact ⟨ow, h.less c, e⟩
end
/-- What a model's state is, besides. -/
structure Good (S : MS) : Prop where
  k1 : 1 ≤ S.k
  k8 : S.k ≤ 8
  ids : ∀ v ∈ S.vols, 1 ≤ v.id ∧ v.id ≤ 16
  sizes : ∀ v ∈ S.vols, 0 ≤ v.size ∧ v.size ≤ 64
  rise : ∀ v ∈ S.vols, Rise v.pl
  keys : ∀ v ∈ S.vols, ∀ x ∈ v.pl, 0 ≤ x.1 ∧ x.1 < v.size
  secs : ∀ v ∈ S.vols, ∀ x ∈ v.pl, (S.sec x.2).length = S.k ∧ ∀ s ∈ S.sec x.2, s.length = 16
end Go.Proofs.YtlcepoagpocadaaGreatDoor
/- What orders do to a model's state: in plain words. -/
namespace Go.Proofs.YtlcepoagpocadaaGreatDoor
open Go Go.RowKit
def zero16 : List UInt8 := List.replicate 16 0
/-- A volume by its number. -/
def findV (S : MS) (id : Int) : Option Vo := S.vols.find? fun v => decide (v.id = id)
/-- A sector of a volume. -/
def secS (S : MS) (v : Vo) (x : Nat) : List UInt8 := match getL ((x / S.k : Nat) : Int) v.pl with
  | some c => (S.sec c).getD (x % S.k) []
  | none => zero16
def putS (S : MS) (v : Vo) : MS := { S with vols := repV v S.vols }
/-- A place's chunk, which it has alone. -/
def Own (S : MS) (v : Vo) (p : Nat) (S' : MS) (c : Nat) : Prop :=
  (getL (p : Int) v.pl = some c ∧ cnt S.vols c = 1 ∧ S' = S) ∨
  ((∀ d, getL (p : Int) v.pl = some d → cnt S.vols d ≠ 1) ∧ cnt S.vols c = 0 ∧
    S' = { S with vols := repV { v with pl := putL (p : Int) c v.pl } S.vols, sec := upd S.sec c ((List.range S.k).map fun i => secS S v (p * S.k + i)) })
def setC (S : MS) (c i : Nat) (s : List UInt8) : MS := { S with sec := upd S.sec c ((S.sec c).set i s) }
/-- A sector of a volume is another one. -/
def SetR (S : MS) (id : Int) (x : Nat) (s : List UInt8) (S' : MS) : Prop :=
  ∃ v S1 c, findV S id = some v ∧ Own S v (x / S.k) S1 c ∧ S' = setC S1 c (x % S.k) s
/-- Sectors from one on are others. -/
def WrR : List (List UInt8) → MS → Int → Nat → MS → Prop
  | [], S, _, _, S' => S' = S
  | s :: r, S, id, x, S' => ∃ S1, SetR S id x s S1 ∧ WrR r S1 id (x + 1) S'
theorem WrR.snoc {s : List UInt8} {id : Int} : ∀ {l : List (List UInt8)} {S S1 S2 : MS} {x : Nat}, WrR l S id x S1 → SetR S1 id (x + l.length) s S2 → WrR (l ++ [s]) S id x S2
  | [], S, S1, S2, x, h, k => by
    have h : S1 = S := h
    subst h
    exact ⟨S2, k, rfl⟩
  | a :: r, S, S1, S2, x, h, k => by
    obtain ⟨T, h1, h2⟩ := h
    exact ⟨T, h1, WrR.snoc h2 (by rw [List.length_cons] at k; rw [show x + 1 + r.length = x + (r.length + 1) by omega]; exact k)⟩
/-- Whether a sector range has all of a place. -/
def wholeS (k at_ n p : Nat) : Bool := decide (at_ ≤ p * k) && decide ((p + 1) * k ≤ at_ + n)
/-- A discard's step at one sector. -/
def DisS (S : MS) (id : Int) (at_ n x : Nat) (S' : MS) : Prop :=
  ∃ v, findV S id = some v ∧ match getL ((x / S.k : Nat) : Int) v.pl with
    | none => S' = S
    | some _ => if wholeS S.k at_ n (x / S.k) = true then S' = putS S { v with pl := delL ((x / S.k : Nat) : Int) v.pl } else SetR S id x zero16 S'
def DisR (S : MS) (id : Int) (at_ n : Nat) : Nat → MS → Prop
  | 0, S' => S' = S
  | i + 1, S' => ∃ S1, DisR S id at_ n i S1 ∧ DisS S1 id at_ n (at_ + i) S'
/-- Whether a sector range can be: the number of its error. -/
def rangeS (S : MS) (id at_ n : Int) : Int := match findV S id with
  | none => 7
  | some v => if at_ < 0 ∨ n < 1 ∨ 2 * (S.k : Int) < n then 1 else if v.size * S.k < at_ ∨ v.size * S.k - at_ < n then 9 else 0
def createS (S : MS) (id size : Int) (b pb : Nat) : Int × MS :=
  if id < 1 ∨ 16 < id ∨ size < 0 ∨ 64 < size then (1, S) else match findV S id with
    | some _ => (8, S)
    | none => (0, { S with vols := insV ⟨b, pb, id, size, 0, false, []⟩ S.vols })
def deleteS (S : MS) (id : Int) : Int × MS := match findV S id with
  | none => (7, S)
  | some _ => (0, { S with vols := remV id S.vols })
def snapS (S : MS) (fr to : Int) (b pb : Nat) : Int × MS := match findV S fr with
  | none => (7, S)
  | some v => if to < 1 ∨ 16 < to then (1, S) else match findV S to with
    | some _ => (8, S)
    | none => (0, { S with vols := insV ⟨b, pb, to, v.size, fr, false, v.pl⟩ S.vols })
def trimL (n : Int) (L : List (Int × Nat)) : List (Int × Nat) := L.filter fun x => decide (x.1 < n)
def resizeS (S : MS) (id size : Int) : Int × MS := match findV S id with
  | none => (7, S)
  | some v => if size < 0 ∨ 64 < size then (1, S) else (0, putS S { v with size := size, pl := trimL size v.pl })
def pinS (S : MS) (id : Int) (is : Bool) : Int × MS := match findV S id with
  | none => (7, S)
  | some v => (0, putS S { v with pin := is })
/-- Sectors from one on. -/
def readS (S : MS) (v : Vo) (x n : Nat) : List UInt8 := (List.range n).flatMap fun i => secS S v (x + i)
/-- A text's sectors. -/
def cut16 (d : List UInt8) : List (List UInt8) := (List.range (d.length / 16)).map fun i => (d.drop (16 * i)).take 16
/-- A write's error. -/
def writeE (S : MS) (id x : Int) (t : List UInt8) : Int := match findV S id with
  | none => 7
  | some _ => if t.length % 16 ≠ 0 then 1 else rangeS S id x ((t.length / 16 : Nat) : Int)
/-- An order's answer: an error's number, bytes, whether the volumes are told; and what the state is then. -/
def DoR (S : MS) (k : Nat) (ns : List Int) (ts : List (List UInt8)) (e : Int) (d : List UInt8) (tells : Bool) (S' : MS) : Prop :=
  if ts.all (fun t => decide (t.length ≤ 512)) = false then e = 1 ∧ d = [] ∧ tells = false ∧ S' = S else
  match k with
  | 0 => (∃ b pb, (e, S') = createS S (ns.getD 0 0) (ns.getD 1 0) b pb) ∧ d = [] ∧ tells = false
  | 1 => (e, S') = deleteS S (ns.getD 0 0) ∧ d = [] ∧ tells = false
  | 2 => (∃ b pb, (e, S') = snapS S (ns.getD 0 0) (ns.getD 1 0) b pb) ∧ d = [] ∧ tells = false
  | 3 => (e, S') = resizeS S (ns.getD 0 0) (ns.getD 1 0) ∧ d = [] ∧ tells = false
  | 4 => (e, S') = pinS S (ns.getD 0 0) true ∧ d = [] ∧ tells = false
  | 5 => (e, S') = pinS S (ns.getD 0 0) false ∧ d = [] ∧ tells = false
  | 6 => S' = S ∧ tells = false ∧ e = rangeS S (ns.getD 0 0) (ns.getD 1 0) (ns.getD 2 0) ∧ d = (match findV S (ns.getD 0 0) with
      | some v => if rangeS S (ns.getD 0 0) (ns.getD 1 0) (ns.getD 2 0) = 0 then readS S v (ns.getD 1 0).toNat (ns.getD 2 0).toNat else []
      | none => [])
  | 7 => d = [] ∧ tells = false ∧ e = writeE S (ns.getD 0 0) (ns.getD 1 0) (ts.getD 0 []) ∧ (if writeE S (ns.getD 0 0) (ns.getD 1 0) (ts.getD 0 []) = 0 then WrR (cut16 (ts.getD 0 [])) S (ns.getD 0 0) (ns.getD 1 0).toNat S' else S' = S)
  | 8 => d = [] ∧ tells = false ∧ e = rangeS S (ns.getD 0 0) (ns.getD 1 0) (ns.getD 2 0) ∧ (if rangeS S (ns.getD 0 0) (ns.getD 1 0) (ns.getD 2 0) = 0 then DisR S (ns.getD 0 0) (ns.getD 1 0).toNat (ns.getD 2 0).toNat (ns.getD 2 0).toNat S' else S' = S)
  | 12 => e = 0 ∧ d = [] ∧ tells = true ∧ S' = S
  | _ => e = 0 ∧ d = [] ∧ tells = false ∧ S' = S
/-- Whether a place wants a chunk of its own. -/
def needS (S : MS) (v : Vo) (p : Nat) : Bool := match getL (p : Int) v.pl with
  | none => true
  | some c => decide (1 < cnt S.vols c)
/-- Places from one to another. -/
def rangeP (k at_ n : Nat) : List Nat := (List.range ((at_ + n - 1) / k + 1 - at_ / k)).map fun i => at_ / k + i
/-- How many chunks more an order wants. -/
def wantS (S : MS) (k : Nat) (ns : List Int) (ts : List (List UInt8)) : Nat := match k with
  | 7 => match findV S (ns.getD 0 0) with
    | none => 0
    | some v => if writeE S (ns.getD 0 0) (ns.getD 1 0) (ts.getD 0 []) = 0 then ((rangeP S.k (ns.getD 1 0).toNat ((ts.getD 0 []).length / 16)).filter fun p => needS S v p).length else 0
  | 8 => match findV S (ns.getD 0 0) with
    | none => 0
    | some v => if rangeS S (ns.getD 0 0) (ns.getD 1 0) (ns.getD 2 0) = 0 then ((rangeP S.k (ns.getD 1 0).toNat (ns.getD 2 0).toNat).filter fun p => !wholeS S.k (ns.getD 1 0).toNat (ns.getD 2 0).toNat p && (getL (p : Int) v.pl).isSome && needS S v p).length else 0
  | _ => 0
/-- All chunks that stand somewhere. -/
def liveL : List Vo → List Nat
  | [] => []
  | v :: r => v.pl.map (·.2) ++ liveL r
def distinct : List Nat → List Nat
  | [] => []
  | a :: r => if a ∈ distinct r then distinct r else a :: distinct r
def countS (S : MS) : Nat := (distinct (liveL S.vols)).length
def dumpS (S : MS) : List (List UInt8) := S.vols.map fun v => readS S v 0 (v.size.toNat * S.k)
end Go.Proofs.YtlcepoagpocadaaGreatDoor
/- Two states that are one but for their chunks' names: what orders do keeps that. -/
namespace Go.Proofs.YtlcepoagpocadaaGreatDoor
open Go Go.RowKit
def stripV (v : Vo) : Int × Int × Int × Bool × List (Int × Nat) := (v.id, v.size, v.fr, v.pin, v.pl)
def renL (f : Nat → Nat) (L : List (Int × Nat)) : List (Int × Nat) := L.map fun x => (x.1, f x.2)
def renV (f : Nat → Nat) (v : Vo) : Int × Int × Int × Bool × List (Int × Nat) := (v.id, v.size, v.fr, v.pin, renL f v.pl)
structure Iso (S T : MS) (f : Nat → Nat) : Prop where
  k : T.k = S.k
  vols : T.vols.map stripV = S.vols.map (renV f)
  inj : ∀ c d, 0 < cnt S.vols c → 0 < cnt S.vols d → f c = f d → c = d
  sec : ∀ c, 0 < cnt S.vols c → T.sec (f c) = S.sec c
section
variable {f : Nat → Nat}
theorem getL_ren (p : Int) : ∀ L : List (Int × Nat), getL p (renL f L) = (getL p L).map f
  | [] => rfl
  | y :: r => by
    unfold renL
    rw [List.map_cons, getL, getL]
    by_cases h : y.1 = p
    · rw [if_pos h, if_pos h]; rfl
    · rw [if_neg h, if_neg h]; exact getL_ren p r
theorem delL_ren (p : Int) (L : List (Int × Nat)) : delL p (renL f L) = renL f (delL p L) := by
  unfold delL renL
  rw [List.filter_map]
  rfl
theorem trimL_ren (n : Int) (L : List (Int × Nat)) : trimL n (renL f L) = renL f (trimL n L) := by
  unfold trimL renL
  rw [List.filter_map]
  rfl
theorem insL_ren (p : Int) (c : Nat) : ∀ L : List (Int × Nat), insL (p, f c) (renL f L) = renL f (insL (p, c) L)
  | [] => rfl
  | y :: r => by
    have ih := insL_ren p c r
    unfold renL at ih ⊢
    rw [List.map_cons, insL, insL]
    by_cases h : p < y.1
    · rw [if_pos h, if_pos h]; rfl
    · rw [if_neg h, if_neg h, List.map_cons, ih]
theorem putL_ren (p : Int) (c : Nat) (L : List (Int × Nat)) : putL p (f c) (renL f L) = renL f (putL p c L) := by
  unfold putL
  rw [delL_ren, insL_ren]
theorem renL_congr {g : Nat → Nat} {L : List (Int × Nat)} (h : ∀ x ∈ L, f x.2 = g x.2) : renL f L = renL g L := by
  unfold renL
  apply List.map_congr_left
  intro x hx
  rw [h x hx]
theorem cntL_ren {c : Nat} : ∀ {L : List (Int × Nat)}, (∀ x ∈ L, f x.2 = f c → x.2 = c) → cntL (f c) (renL f L) = cntL c L
  | [], _ => rfl
  | y :: r, h => by
    have ih := cntL_ren (c := c) (L := r) (fun x hx => h x (by simp [hx]))
    have e : renL f (y :: r) = (y.1, f y.2) :: renL f r := rfl
    rw [e, cntL_cons, cntL_cons, ih]
    by_cases q : y.2 = c
    · rw [if_pos q, if_pos (by rw [q])]
    · rw [if_neg q, if_neg (fun e => q (h y (by simp) e))]
theorem cnt_strip {f : Nat → Nat} {c : Nat} : ∀ {l l' : List Vo}, l'.map stripV = l.map (renV f) → (∀ v ∈ l, ∀ x ∈ v.pl, f x.2 = f c → x.2 = c) → cnt l' (f c) = cnt l c
  | [], [], _, _ => rfl
  | [], _ :: _, h, _ => by simp at h
  | _ :: _, [], h, _ => by simp at h
  | v :: l, u :: l', h, k => by
    rw [List.map_cons, List.map_cons] at h
    injection h with h1 h2
    have e : u.pl = renL f v.pl := congrArg (fun x => x.2.2.2.2) h1
    rw [cnt_cons, cnt_cons, e, cntL_ren (k v (by simp)), cnt_strip h2 (fun v hv => k v (by simp [hv]))]
theorem cnt_strip_no {f : Nat → Nat} {d : Nat} : ∀ {l l' : List Vo}, l'.map stripV = l.map (renV f) → 0 < cnt l' d → ∃ c, 0 < cnt l c ∧ f c = d
  | [], [], _, h => by simp [cnt] at h
  | [], _ :: _, h, _ => by simp at h
  | _ :: _, [], h, _ => by simp at h
  | v :: l, u :: l', h, k => by
    rw [List.map_cons, List.map_cons] at h
    injection h with h1 h2
    have e : u.pl = renL f v.pl := congrArg (fun x => x.2.2.2.2) h1
    rw [cnt_cons, e] at k
    by_cases q : 0 < cntL d (renL f v.pl)
    · obtain ⟨x, hx, e2⟩ := cntL_pos.1 q
      obtain ⟨y, hy, rfl⟩ := List.mem_map.1 hx
      exact ⟨y.2, by rw [cnt_cons]; have := cntL_pos.2 ⟨y, hy, rfl⟩; omega, e2⟩
    · obtain ⟨c, hc, e2⟩ := cnt_strip_no h2 (d := d) (by omega)
      exact ⟨c, by rw [cnt_cons]; omega, e2⟩
theorem find_strip {f : Nat → Nat} {id : Int} : ∀ {l l' : List Vo}, l'.map stripV = l.map (renV f) →
    (∀ v, l.find? (fun v => decide (v.id = id)) = some v → ∃ u, l'.find? (fun v => decide (v.id = id)) = some u ∧ stripV u = renV f v) ∧
    (l.find? (fun v => decide (v.id = id)) = none → l'.find? (fun v => decide (v.id = id)) = none)
  | [], [], _ => ⟨fun v h => by simp at h, fun _ => rfl⟩
  | [], _ :: _, h => by simp at h
  | _ :: _, [], h => by simp at h
  | v :: l, u :: l', h => by
    rw [List.map_cons, List.map_cons] at h
    injection h with h1 h2
    have e : u.id = v.id := congrArg (fun x => x.1) h1
    have ih := find_strip (id := id) h2
    rw [List.find?_cons, List.find?_cons, e]
    by_cases q : v.id = id
    · simp only [q, decide_true]
      exact ⟨fun w hw => by cases hw; exact ⟨u, rfl, h1⟩, fun hw => by cases hw⟩
    · simp only [q, decide_false]
      exact ih
end
theorem findV_mem {S : MS} {id : Int} {v : Vo} (h : findV S id = some v) : v ∈ S.vols ∧ v.id = id := by
  unfold findV at h
  refine ⟨List.mem_of_find?_eq_some h, ?_⟩
  have := List.find?_some h
  simpa using this
theorem rep_strip {f g : Nat → Nat} {v u : Vo} : ∀ {l l' : List Vo}, l'.map stripV = l.map (renV f) → stripV u = renV g v → (∀ x ∈ l, renV f x = renV g x) → (repV u l').map stripV = (repV v l).map (renV g)
  | [], [], _, _, _ => rfl
  | [], _ :: _, h, _, _ => by simp at h
  | _ :: _, [], h, _, _ => by simp at h
  | y :: l, z :: l', h, k, e => by
    rw [List.map_cons, List.map_cons] at h
    injection h with h1 h2
    have ih := rep_strip h2 k (fun x hx => e x (by simp [hx]))
    have e1 : z.id = y.id := congrArg (fun x => x.1) h1
    have e2 : u.id = v.id := congrArg (fun x => x.1) k
    unfold repV at ih ⊢
    simp only [List.map_cons]
    rw [ih, e1, e2]
    congr 1
    by_cases q : y.id = v.id
    · rw [if_pos q, if_pos q]; exact k
    · rw [if_neg q, if_neg q, h1]; exact e y (by simp)
theorem ins_strip {f : Nat → Nat} {v u : Vo} (k : stripV u = renV f v) : ∀ {l l' : List Vo}, l'.map stripV = l.map (renV f) → (insV u l').map stripV = (insV v l).map (renV f)
  | [], [], _ => by simp [insV, k]
  | [], _ :: _, h => by simp at h
  | _ :: _, [], h => by simp at h
  | y :: l, z :: l', h => by
    have h0 := h
    rw [List.map_cons, List.map_cons] at h
    injection h with h1 h2
    have ih := ins_strip k h2
    have e1 : z.id = y.id := congrArg (fun x => x.1) h1
    have e2 : u.id = v.id := congrArg (fun x => x.1) k
    rw [insV, insV, e1, e2]
    by_cases q : v.id < y.id
    · rw [if_pos q, if_pos q, List.map_cons, k, h0]; rfl
    · rw [if_neg q, if_neg q, List.map_cons, List.map_cons, ih, h1]
theorem rem_strip {f : Nat → Nat} (id : Int) : ∀ {l l' : List Vo}, l'.map stripV = l.map (renV f) → (remV id l').map stripV = (remV id l).map (renV f)
  | [], [], _ => rfl
  | [], _ :: _, h => by simp at h
  | _ :: _, [], h => by simp at h
  | y :: l, z :: l', h => by
    rw [List.map_cons, List.map_cons] at h
    injection h with h1 h2
    have ih := rem_strip id h2
    have e1 : z.id = y.id := congrArg (fun x => x.1) h1
    unfold remV at ih ⊢
    rw [List.filter_cons, List.filter_cons, e1]
    by_cases q : y.id = id
    · simp only [q, decide_true, Bool.not_true, Bool.false_eq_true, if_false]; exact ih
    · simp only [q, decide_false, Bool.not_false, if_true, List.map_cons, h1, ih]
section
variable {S T : MS} {f : Nat → Nat}
theorem Iso.find (I : Iso S T f) {id : Int} {v : Vo} (h : findV S id = some v) : ∃ u, findV T id = some u ∧ stripV u = renV f v := (find_strip I.vols).1 v h
theorem Iso.find_none (I : Iso S T f) {id : Int} (h : findV S id = none) : findV T id = none := (find_strip I.vols).2 h
theorem Iso.cnt (I : Iso S T f) {c : Nat} (h : 0 < cnt S.vols c) : cnt T.vols (f c) = cnt S.vols c :=
  cnt_strip I.vols (fun v hv x hx e => I.inj _ _ (cnt_pos.2 ⟨v, hv, x, hx, rfl⟩) h e)
theorem live_get {v : Vo} (hv : v ∈ S.vols) {p : Int} {c : Nat} (h : getL p v.pl = some c) : 0 < Go.Proofs.YtlcepoagpocadaaGreatDoor.cnt S.vols c := cnt_pos.2 ⟨v, hv, _, getL_mem h, rfl⟩
theorem Iso.sect (I : Iso S T f) {v u : Vo} (hv : v ∈ S.vols) (e : stripV u = renV f v) (x : Nat) : secS T u x = secS S v x := by
  have ep : u.pl = renL f v.pl := congrArg (fun x => x.2.2.2.2) e
  unfold secS
  rw [ep, I.k, getL_ren]
  cases hg : getL ((x / S.k : Nat) : Int) v.pl with
  | none => rfl
  | some c =>
    dsimp only [Option.map]
    rw [I.sec c (live_get hv hg)]
theorem Iso.range (I : Iso S T f) (id x n : Int) : rangeS T id x n = rangeS S id x n := by
  unfold rangeS
  cases hf : findV S id with
  | none => rw [I.find_none hf]
  | some v =>
    obtain ⟨u, hu, e⟩ := I.find hf
    have es : u.size = v.size := congrArg (fun x => x.2.1) e
    rw [hu]
    dsimp only
    rw [I.k, es]
end
end Go.Proofs.YtlcepoagpocadaaGreatDoor
/- Two states that are one but for their chunks' names stay so. -/
namespace Go.Proofs.YtlcepoagpocadaaGreatDoor
open Go Go.RowKit
/-- What a state always is. -/
structure Wf (S : MS) : Prop where
  nd : S.vols.Pairwise fun a b => a.id < b.id
  rise : ∀ v ∈ S.vols, Rise v.pl
theorem mem_rep {v v' : Vo} {l : List Vo} (hv : v ∈ l) (e : v'.id = v.id) : v' ∈ repV v' l := by
  unfold repV
  exact List.mem_map.2 ⟨v, hv, by rw [if_pos e.symm]⟩
theorem Wf.rep {S : MS} (h : Wf S) {v : Vo} (hr : Rise v.pl) (sec : Nat → List (List UInt8)) : Wf { S with vols := repV v S.vols, sec := sec } :=
  ⟨pw_ids (rep_ids v S.vols) h.nd, fun u hu => by
    rcases mem_repV hu with rfl | ⟨hu, _⟩
    · exact hr
    · exact h.rise u hu⟩
theorem Wf.own {S S' : MS} {v : Vo} {p c : Nat} (h : Wf S) (hv : v ∈ S.vols) (o : Own S v p S' c) : Wf S' := by
  rcases o with ⟨_, _, rfl⟩ | ⟨_, _, rfl⟩
  · exact h
  · exact h.rep (v := { v with pl := putL (p : Int) c v.pl }) ((h.rise v hv).put _ _) _
theorem Wf.setC {S : MS} (h : Wf S) (c i : Nat) (s : List UInt8) : Wf (setC S c i s) := ⟨h.nd, h.rise⟩
theorem Wf.set {S S' : MS} {id : Int} {x : Nat} {s : List UInt8} (h : Wf S) (o : SetR S id x s S') : Wf S' := by
  obtain ⟨v, S1, c, hf, ho, rfl⟩ := o
  exact (h.own (findV_mem hf).1 ho).setC _ _ _
/-- How many places have a chunk, behind a place's turn. -/
theorem cnt_put {S : MS} (h : Wf S) {v : Vo} (hv : v ∈ S.vols) (p : Int) (c e : Nat) :
    cnt (repV { v with pl := putL p c v.pl } S.vols) e + (if getL p v.pl = some e then 1 else 0) = cnt S.vols e + (if c = e then 1 else 0) := by
  have h1 := cnt_rep (v := v) (v' := { v with pl := putL p c v.pl }) e h.nd hv rfl
  have h2 := cntL_put (p := p) (d := c) e (h.rise v hv)
  dsimp only at h1
  omega
theorem cnt_dels {S : MS} (h : Wf S) {v : Vo} (hv : v ∈ S.vols) (p : Int) (e : Nat) :
    cnt (repV { v with pl := delL p v.pl } S.vols) e + (if getL p v.pl = some e then 1 else 0) = cnt S.vols e := by
  have h1 := cnt_rep (v := v) (v' := { v with pl := delL p v.pl }) e h.nd hv rfl
  have h2 := cntL_del (p := p) e (h.rise v hv)
  dsimp only at h1
  omega
section
variable {S T S1 T1 : MS} {f : Nat → Nat}
theorem iso_own (I : Iso S T f) (W : Wf S) {v u : Vo} (hv : v ∈ S.vols) (hu : u ∈ T.vols) (e : stripV u = renV f v) {p c d : Nat} (h1 : Own S v p S1 c) (h2 : Own T u p T1 d) :
    ∃ g, Iso S1 T1 g ∧ g c = d ∧ 0 < cnt S1.vols c := by
  have ep : u.pl = renL f v.pl := congrArg (fun x => x.2.2.2.2) e
  rcases h1 with ⟨g1, c1, rfl⟩ | ⟨g1, c1, rfl⟩
  · have hl := live_get hv g1
    have gu : getL (p : Int) u.pl = some (f c) := by rw [ep, getL_ren, g1]; rfl
    have cu : cnt T.vols (f c) = 1 := by rw [I.cnt hl, c1]
    rcases h2 with ⟨g2, c2, rfl⟩ | ⟨g2, _, _⟩
    · rw [gu] at g2
      exact ⟨f, I, Option.some.inj g2, hl⟩
    · exact absurd cu (g2 _ gu)
  · have hnew : ∀ x, getL (p : Int) v.pl = some x → cnt T.vols (f x) ≠ 1 := fun x hx => by
      rw [I.cnt (live_get hv hx)]; exact g1 x hx
    rcases h2 with ⟨g2, c2, rfl⟩ | ⟨g2, c2, rfl⟩
    · rw [ep, getL_ren] at g2
      obtain ⟨x, hx, e2⟩ := Option.map_eq_some_iff.1 g2
      rw [← e2] at c2
      exact absurd c2 (hnew x hx)
    · have hne : ∀ x ∈ S.vols, ∀ y ∈ x.pl, y.2 ≠ c := fun x hx y hy q => by
        have := cnt_pos.2 ⟨x, hx, y, hy, q⟩; omega
      have hgn : ∀ y, y ≠ c → upd f c d y = f y := fun y q => upd_ne _ _ q
      have hrn : ∀ x ∈ S.vols, renV f x = renV (upd f c d) x := fun x hx => by
        unfold renV
        rw [renL_congr (g := upd f c d) (fun y hy => (hgn _ (hne x hx y hy)).symm)]
      have hk : stripV { u with pl := putL (p : Int) d u.pl } = renV (upd f c d) { v with pl := putL (p : Int) c v.pl } := by
        unfold stripV renV at e ⊢
        dsimp only at e ⊢
        injection e with e1 e; injection e with e2 e; injection e with e3 e; injection e with e4 e
        rw [e1, e2, e3, e4, ← putL_ren, upd_same, e]
        rw [renL_congr (g := upd f c d) (fun y hy => (hgn _ (hne v hv y hy)).symm)]
      have hcp := fun e => cnt_put W hv (p : Int) c e
      have hold : ∀ x, x ≠ c → 0 < cnt (repV { v with pl := putL (p : Int) c v.pl } S.vols) x → 0 < cnt S.vols x := fun x q hx => by
        have := hcp x
        rw [if_neg (fun r : c = x => q r.symm)] at this
        omega
      have hfd : ∀ x, 0 < cnt S.vols x → f x ≠ d := fun x hx q => by
        have := I.cnt hx
        rw [q, c2] at this
        omega
      refine ⟨upd f c d, ⟨I.k, rep_strip I.vols hk hrn, ?_, ?_⟩, upd_same _ _ _, ?_⟩
      · intro x y hx hy q
        by_cases qx : x = c
        · by_cases qy : y = c
          · rw [qx, qy]
          · rw [qx, upd_same, hgn y qy] at q
            exact absurd q.symm (hfd y (hold y qy hy))
        · by_cases qy : y = c
          · rw [qy, upd_same, hgn x qx] at q
            exact absurd q (hfd x (hold x qx hx))
          · rw [hgn x qx, hgn y qy] at q
            exact I.inj x y (hold x qx hx) (hold y qy hy) q
      · intro x hx
        by_cases qx : x = c
        · rw [qx, upd_same]
          show upd T.sec d _ d = upd S.sec c _ c
          rw [upd_same, upd_same, I.k]
          apply List.map_congr_left
          intro i _
          exact I.sect hv e _
        · rw [hgn x qx]
          show upd T.sec d _ (f x) = upd S.sec c _ x
          rw [upd_ne _ _ (hfd x (hold x qx hx)), upd_ne _ _ qx]
          exact I.sec x (hold x qx hx)
      · exact cnt_pos.2 ⟨_, mem_rep hv rfl, ((p : Int), c), mem_putL.2 (.inl rfl), rfl⟩
theorem iso_setC (I : Iso S T f) {c : Nat} (hc : 0 < cnt S.vols c) (i : Nat) (s : List UInt8) : Iso (setC S c i s) (setC T (f c) i s) f := by
  refine ⟨I.k, I.vols, I.inj, fun x hx => ?_⟩
  show upd T.sec (f c) _ (f x) = upd S.sec c _ x
  by_cases q : x = c
  · rw [q, upd_same, upd_same, I.sec c hc]
  · rw [upd_ne _ _ q, upd_ne _ _ (fun r => q (I.inj x c hx hc r))]
    exact I.sec x hx
theorem iso_set (I : Iso S T f) (W : Wf S) {id : Int} {x : Nat} {s : List UInt8} (h1 : SetR S id x s S1) (h2 : SetR T id x s T1) : ∃ g, Iso S1 T1 g := by
  obtain ⟨v, S2, c, hf, ho, rfl⟩ := h1
  obtain ⟨u, T2, d, hf2, ho2, rfl⟩ := h2
  obtain ⟨u', hu', e⟩ := I.find hf
  rw [hf2] at hu'
  cases hu'
  rw [I.k] at ho2 ⊢
  obtain ⟨g, J, e2, hl⟩ := iso_own I W (findV_mem hf).1 (findV_mem hf2).1 e ho ho2
  rw [← e2]
  exact ⟨g, iso_setC J hl _ _⟩
theorem iso_wr : ∀ {l : List (List UInt8)} {S T : MS} {f : Nat → Nat} {x : Nat} {id : Int}, Iso S T f → Wf S → WrR l S id x S1 → WrR l T id x T1 → ∃ g, Iso S1 T1 g
  | [], S, T, f, x, id, I, _, h1, h2 => by
    have h1 : S1 = S := h1
    have h2 : T1 = T := h2
    rw [h1, h2]; exact ⟨f, I⟩
  | s :: r, S, T, f, x, id, I, W, h1, h2 => by
    obtain ⟨S2, a1, b1⟩ := h1
    obtain ⟨T2, a2, b2⟩ := h2
    obtain ⟨g, J⟩ := iso_set I W a1 a2
    exact iso_wr J (W.set a1) b1 b2
theorem Wf.put {v : Vo} (W : Wf S) (hr : Rise v.pl) : Wf (putS S v) := W.rep hr S.sec
theorem Wf.dis {id : Int} {a n x : Nat} (W : Wf S) (h : DisS S id a n x S1) : Wf S1 := by
  obtain ⟨v, hf, h⟩ := h
  have hv := (findV_mem hf).1
  cases hg : getL ((x / S.k : Nat) : Int) v.pl with
  | none => rw [hg] at h; dsimp only at h; rw [h]; exact W
  | some c =>
    rw [hg] at h
    dsimp only at h
    by_cases q : wholeS S.k a n (x / S.k) = true
    · rw [if_pos q] at h; rw [h]; exact W.put (v := { v with pl := delL ((x / S.k : Nat) : Int) v.pl }) ((W.rise v hv).del _)
    · rw [if_neg q] at h; exact W.set h
theorem iso_put {v u v' u' : Vo} (I : Iso S T f) (W : Wf S) (hv : v ∈ S.vols) (e : stripV u' = renV f v') (hid : v'.id = v.id) (hle : ∀ c, cntL c v'.pl ≤ cntL c v.pl) : Iso (putS S v') (putS T u') f := by
  have hold : ∀ c, 0 < cnt (repV v' S.vols) c → 0 < cnt S.vols c := fun c hc => by
    have := cnt_rep (v := v) (v' := v') c W.nd hv hid
    have := hle c
    omega
  exact ⟨I.k, rep_strip I.vols e (fun _ _ => rfl), fun c d hc hd q => I.inj c d (hold c hc) (hold d hd) q, fun c hc => I.sec c (hold c hc)⟩
theorem cntL_filter_le (c : Nat) (P : Int × Nat → Bool) (L : List (Int × Nat)) : cntL c (L.filter P) ≤ cntL c L := by
  unfold cntL
  rw [List.filter_filter]
  have : (L.filter fun a => decide (a.2 = c) && P a) = (L.filter fun x => decide (x.2 = c)).filter P := by
    rw [List.filter_filter]
    congr 1
    funext a
    exact Bool.and_comm _ _
  rw [this]
  exact List.length_filter_le _ _
theorem iso_dis (I : Iso S T f) (W : Wf S) {id : Int} {a n x : Nat} (h1 : DisS S id a n x S1) (h2 : DisS T id a n x T1) : ∃ g, Iso S1 T1 g := by
  obtain ⟨v, hf, h1⟩ := h1
  obtain ⟨u, hf2, h2⟩ := h2
  obtain ⟨u', hu', e⟩ := I.find hf
  rw [hf2] at hu'
  cases hu'
  have hv := (findV_mem hf).1
  have ep : u.pl = renL f v.pl := congrArg (fun x => x.2.2.2.2) e
  rw [I.k, ep, getL_ren] at h2
  cases hg : getL ((x / S.k : Nat) : Int) v.pl with
  | none =>
    rw [hg] at h1 h2
    dsimp only [Option.map] at h1 h2
    rw [h1, h2]; exact ⟨f, I⟩
  | some c =>
    rw [hg] at h1 h2
    dsimp only [Option.map] at h1 h2
    by_cases q : wholeS S.k a n (x / S.k) = true
    · rw [if_pos q] at h1 h2
      rw [h1, h2]
      refine ⟨f, iso_put (v := v) (u := u) I W hv ?_ rfl (fun c => cntL_filter_le c _ _)⟩
      unfold stripV renV at e ⊢
      dsimp only at e ⊢
      injection e with e1 e; injection e with e2 e; injection e with e3 e; injection e with e4 e
      rw [e1, e2, e3, e4, delL_ren]
    · rw [if_neg q] at h1 h2
      exact iso_set I W h1 h2
theorem iso_disR {id : Int} {a n : Nat} (I : Iso S T f) (W : Wf S) : ∀ (i : Nat) {S1 T1 : MS}, DisR S id a n i S1 → DisR T id a n i T1 → (∃ g, Iso S1 T1 g) ∧ Wf S1
  | 0, S1, T1, h1, h2 => by
    have h1 : S1 = S := h1
    have h2 : T1 = T := h2
    rw [h1, h2]; exact ⟨⟨f, I⟩, W⟩
  | i + 1, S1, T1, h1, h2 => by
    obtain ⟨S2, a1, b1⟩ := h1
    obtain ⟨T2, a2, b2⟩ := h2
    obtain ⟨⟨g, J⟩, W2⟩ := iso_disR I W i a1 a2
    exact ⟨iso_dis J W2 b1 b2, W2.dis b1⟩
end
end Go.Proofs.YtlcepoagpocadaaGreatDoor
/- Orders answer alike of two states that are one but for their chunks' names. -/
namespace Go.Proofs.YtlcepoagpocadaaGreatDoor
open Go Go.RowKit
section
variable {S T S1 T1 : MS} {f : Nat → Nat}
theorem Iso.read (I : Iso S T f) {v u : Vo} (hv : v ∈ S.vols) (e : stripV u = renV f v) (x n : Nat) : readS T u x n = readS S v x n := by
  unfold readS
  congr 1
  funext i
  exact I.sect hv e _
theorem iso_create (I : Iso S T f) {id size : Int} {b pb b' pb' : Nat} : (createS T id size b' pb').1 = (createS S id size b pb).1 ∧ Iso (createS S id size b pb).2 (createS T id size b' pb').2 f := by
  unfold createS
  by_cases q : id < 1 ∨ 16 < id ∨ size < 0 ∨ 64 < size
  · rw [if_pos q, if_pos q]; exact ⟨rfl, I⟩
  · rw [if_neg q, if_neg q]
    cases hf : findV S id with
    | some v =>
      obtain ⟨u, hu, _⟩ := I.find hf
      rw [hu]; exact ⟨rfl, I⟩
    | none =>
      rw [I.find_none hf]
      dsimp only
      have hold : ∀ c, cnt (insV ⟨b, pb, id, size, 0, false, []⟩ S.vols) c = cnt S.vols c := fun c => by rw [cnt_ins]; simp [cntL]
      refine ⟨rfl, ⟨I.k, ins_strip rfl I.vols, fun c d hc hd q => I.inj c d ?_ ?_ q, fun c hc => I.sec c ?_⟩⟩
      · rw [← hold c]; exact hc
      · rw [← hold d]; exact hd
      · rw [← hold c]; exact hc
theorem iso_delete (I : Iso S T f) (W : Wf S) {id : Int} : (deleteS T id).1 = (deleteS S id).1 ∧ Iso (deleteS S id).2 (deleteS T id).2 f := by
  unfold deleteS
  cases hf : findV S id with
  | none => rw [I.find_none hf]; exact ⟨rfl, I⟩
  | some v =>
    obtain ⟨u, hu, _⟩ := I.find hf
    rw [hu]
    dsimp only
    obtain ⟨hv, rfl⟩ := findV_mem hf
    have hold : ∀ c, 0 < cnt (remV v.id S.vols) c → 0 < cnt S.vols c := fun c hc => by have := cnt_rem c W.nd hv; omega
    exact ⟨rfl, ⟨I.k, rem_strip _ I.vols, fun c d hc hd q => I.inj c d (hold c hc) (hold d hd) q, fun c hc => I.sec c (hold c hc)⟩⟩
theorem iso_snap (I : Iso S T f) {fr to : Int} {b pb b' pb' : Nat} : (snapS T fr to b' pb').1 = (snapS S fr to b pb).1 ∧ Iso (snapS S fr to b pb).2 (snapS T fr to b' pb').2 f := by
  unfold snapS
  cases hf : findV S fr with
  | none => rw [I.find_none hf]; exact ⟨rfl, I⟩
  | some v =>
    obtain ⟨u, hu, e⟩ := I.find hf
    have hv := (findV_mem hf).1
    rw [hu]
    dsimp only
    by_cases q : to < 1 ∨ 16 < to
    · rw [if_pos q, if_pos q]; exact ⟨rfl, I⟩
    · rw [if_neg q, if_neg q]
      cases hf2 : findV S to with
      | some v2 =>
        obtain ⟨u2, hu2, _⟩ := I.find hf2
        rw [hu2]; exact ⟨rfl, I⟩
      | none =>
        rw [I.find_none hf2]
        dsimp only
        have hold : ∀ c, 0 < cnt (insV ⟨b, pb, to, v.size, fr, false, v.pl⟩ S.vols) c → 0 < cnt S.vols c := fun c hc => by
          rw [cnt_ins] at hc
          by_cases q : 0 < cntL c v.pl
          · obtain ⟨x, hx, e⟩ := cntL_pos.1 q
            exact cnt_pos.2 ⟨v, hv, x, hx, e⟩
          · dsimp only at hc; omega
        have es : u.size = v.size := congrArg (fun x => x.2.1) e
        have ep : u.pl = renL f v.pl := congrArg (fun x => x.2.2.2.2) e
        refine ⟨rfl, ⟨I.k, ins_strip ?_ I.vols, fun c d hc hd q => I.inj c d (hold c hc) (hold d hd) q, fun c hc => I.sec c (hold c hc)⟩⟩
        unfold stripV renV
        dsimp only
        rw [es, ep]
theorem strip_eq {u v : Vo} (e : stripV u = renV f v) : u.id = v.id ∧ u.size = v.size ∧ u.fr = v.fr ∧ u.pin = v.pin ∧ u.pl = renL f v.pl := by
  unfold stripV renV at e
  injection e with e1 e; injection e with e2 e; injection e with e3 e; injection e with e4 e
  exact ⟨e1, e2, e3, e4, e⟩
theorem iso_resize (I : Iso S T f) (W : Wf S) {id size : Int} : (resizeS T id size).1 = (resizeS S id size).1 ∧ Iso (resizeS S id size).2 (resizeS T id size).2 f := by
  unfold resizeS
  cases hf : findV S id with
  | none => rw [I.find_none hf]; exact ⟨rfl, I⟩
  | some v =>
    obtain ⟨u, hu, e⟩ := I.find hf
    have hv := (findV_mem hf).1
    rw [hu]
    dsimp only
    by_cases q : size < 0 ∨ 64 < size
    · rw [if_pos q, if_pos q]; exact ⟨rfl, I⟩
    · rw [if_neg q, if_neg q]
      obtain ⟨e1, e2, e3, e4, e5⟩ := strip_eq e
      refine ⟨rfl, iso_put (v := v) (u := u) I W hv ?_ rfl (fun c => cntL_filter_le c _ _)⟩
      unfold stripV renV
      dsimp only
      rw [e1, e3, e4, e5, trimL_ren]
theorem iso_pin (I : Iso S T f) (W : Wf S) {id : Int} {is : Bool} : (pinS T id is).1 = (pinS S id is).1 ∧ Iso (pinS S id is).2 (pinS T id is).2 f := by
  unfold pinS
  cases hf : findV S id with
  | none => rw [I.find_none hf]; exact ⟨rfl, I⟩
  | some v =>
    obtain ⟨u, hu, e⟩ := I.find hf
    have hv := (findV_mem hf).1
    rw [hu]
    dsimp only
    obtain ⟨e1, e2, e3, e4, e5⟩ := strip_eq e
    refine ⟨rfl, iso_put (v := v) (u := u) I W hv ?_ rfl (fun c => Nat.le_refl _)⟩
    unfold stripV renV
    dsimp only
    rw [e1, e2, e3, e5]
theorem Iso.writeE (I : Iso S T f) (id x : Int) (t : List UInt8) : Go.Proofs.YtlcepoagpocadaaGreatDoor.writeE T id x t = Go.Proofs.YtlcepoagpocadaaGreatDoor.writeE S id x t := by
  unfold Go.Proofs.YtlcepoagpocadaaGreatDoor.writeE
  cases hf : findV S id with
  | none => rw [I.find_none hf]
  | some v =>
    obtain ⟨u, hu, e⟩ := I.find hf
    rw [hu, I.range]
theorem iso_do (I : Iso S T f) (W : Wf S) {k : Nat} {ns : List Int} {ts : List (List UInt8)} {e e' : Int} {d d' : List UInt8} {t t' : Bool} (h1 : DoR S k ns ts e d t S1) (h2 : DoR T k ns ts e' d' t' T1) : e' = e ∧ d' = d ∧ t' = t ∧ ∃ g, Iso S1 T1 g := by
  unfold DoR at h1 h2
  by_cases q : ts.all (fun t => decide (t.length ≤ 512)) = false
  · rw [if_pos q] at h1 h2
    obtain ⟨rfl, rfl, rfl, rfl⟩ := h1
    obtain ⟨rfl, rfl, rfl, rfl⟩ := h2
    exact ⟨rfl, rfl, rfl, f, I⟩
  · rw [if_neg q] at h1 h2
    generalize ns.getD 0 0 = a0 at h1 h2
    generalize ns.getD 1 0 = a1 at h1 h2
    generalize ns.getD 2 0 = a2 at h1 h2
    generalize ts.getD 0 [] = t0 at h1 h2
    split at h1
    · obtain ⟨⟨b, pb, e1⟩, rfl, rfl⟩ := h1
      obtain ⟨⟨b', pb', e2⟩, rfl, rfl⟩ := h2
      have := iso_create I (id := a0) (size := a1) (b := b) (pb := pb) (b' := b') (pb' := pb')
      rw [← e1, ← e2] at this
      exact ⟨this.1, rfl, rfl, f, this.2⟩
    · obtain ⟨e1, rfl, rfl⟩ := h1
      obtain ⟨e2, rfl, rfl⟩ := h2
      have := iso_delete I W (id := a0)
      rw [← e1, ← e2] at this
      exact ⟨this.1, rfl, rfl, f, this.2⟩
    · obtain ⟨⟨b, pb, e1⟩, rfl, rfl⟩ := h1
      obtain ⟨⟨b', pb', e2⟩, rfl, rfl⟩ := h2
      have := iso_snap I (fr := a0) (to := a1) (b := b) (pb := pb) (b' := b') (pb' := pb')
      rw [← e1, ← e2] at this
      exact ⟨this.1, rfl, rfl, f, this.2⟩
    · obtain ⟨e1, rfl, rfl⟩ := h1
      obtain ⟨e2, rfl, rfl⟩ := h2
      have := iso_resize I W (id := a0) (size := a1)
      rw [← e1, ← e2] at this
      exact ⟨this.1, rfl, rfl, f, this.2⟩
    · obtain ⟨e1, rfl, rfl⟩ := h1
      obtain ⟨e2, rfl, rfl⟩ := h2
      have := iso_pin I W (id := a0) (is := true)
      rw [← e1, ← e2] at this
      exact ⟨this.1, rfl, rfl, f, this.2⟩
    · obtain ⟨e1, rfl, rfl⟩ := h1
      obtain ⟨e2, rfl, rfl⟩ := h2
      have := iso_pin I W (id := a0) (is := false)
      rw [← e1, ← e2] at this
      exact ⟨this.1, rfl, rfl, f, this.2⟩
    · obtain ⟨rfl, rfl, rfl, rfl⟩ := h1
      obtain ⟨rfl, rfl, rfl, rfl⟩ := h2
      refine ⟨I.range _ _ _, ?_, rfl, f, I⟩
      cases hf : findV S1 a0 with
      | none => rw [I.find_none hf]
      | some v =>
        obtain ⟨u, hu, e⟩ := I.find hf
        rw [hu]
        dsimp only
        rw [I.range, I.read (findV_mem hf).1 e]
    · obtain ⟨rfl, rfl, rfl, h1⟩ := h1
      obtain ⟨rfl, rfl, rfl, h2⟩ := h2
      rw [I.writeE] at h2 ⊢
      refine ⟨rfl, rfl, rfl, ?_⟩
      by_cases r : Go.Proofs.YtlcepoagpocadaaGreatDoor.writeE S a0 a1 t0 = 0
      · rw [if_pos r] at h1 h2; exact iso_wr I W h1 h2
      · rw [if_neg r] at h1 h2; rw [h1, h2]; exact ⟨f, I⟩
    · obtain ⟨rfl, rfl, rfl, h1⟩ := h1
      obtain ⟨rfl, rfl, rfl, h2⟩ := h2
      rw [I.range] at h2 ⊢
      refine ⟨rfl, rfl, rfl, ?_⟩
      by_cases r : rangeS S a0 a1 a2 = 0
      · rw [if_pos r] at h1 h2; exact (iso_disR I W _ h1 h2).1
      · rw [if_neg r] at h1 h2; rw [h1, h2]; exact ⟨f, I⟩
    · obtain ⟨rfl, rfl, rfl, rfl⟩ := h1
      obtain ⟨rfl, rfl, rfl, rfl⟩ := h2
      exact ⟨rfl, rfl, rfl, f, I⟩
    · split at h2 <;> first | (exact absurd rfl ‹_›) | skip
      all_goals (obtain ⟨rfl, rfl, rfl, rfl⟩ := h1; obtain ⟨rfl, rfl, rfl, rfl⟩ := h2; exact ⟨rfl, rfl, rfl, f, I⟩)
end
end Go.Proofs.YtlcepoagpocadaaGreatDoor
/- What is wanted, how many chunks there are, and what volumes are told, of two states that are one but for their chunks' names; what a state is behind an order. -/
namespace Go.Proofs.YtlcepoagpocadaaGreatDoor
open Go Go.RowKit
section
variable {S T S1 T1 : MS} {f : Nat → Nat}
theorem Iso.need (I : Iso S T f) {v u : Vo} (hv : v ∈ S.vols) (e : stripV u = renV f v) (p : Nat) : needS T u p = needS S v p := by
  unfold needS
  rw [(strip_eq e).2.2.2.2, getL_ren]
  cases hg : getL (p : Int) v.pl with
  | none => rfl
  | some c => dsimp only [Option.map]; rw [I.cnt (live_get hv hg)]
theorem Iso.want (I : Iso S T f) (k : Nat) (ns : List Int) (ts : List (List UInt8)) : wantS T k ns ts = wantS S k ns ts := by
  unfold wantS
  generalize ns.getD 0 0 = a0
  generalize ns.getD 1 0 = a1
  generalize ns.getD 2 0 = a2
  generalize ts.getD 0 [] = t0
  split
  · cases hf : findV S a0 with
    | none => rw [I.find_none hf]
    | some v =>
      obtain ⟨u, hu, e⟩ := I.find hf
      rw [hu]
      dsimp only
      rw [I.writeE, I.k]
      congr 2
      apply List.filter_congr
      intro p _
      exact I.need (findV_mem hf).1 e p
  · cases hf : findV S a0 with
    | none => rw [I.find_none hf]
    | some v =>
      obtain ⟨u, hu, e⟩ := I.find hf
      rw [hu]
      dsimp only
      rw [I.range, I.k]
      congr 2
      apply List.filter_congr
      intro p _
      rw [I.need (findV_mem hf).1 e p, (strip_eq e).2.2.2.2, getL_ren]
      congr 1
      congr 1
      cases getL (p : Int) v.pl <;> rfl
  · rfl
theorem live_strip {f : Nat → Nat} : ∀ {l l' : List Vo}, l'.map stripV = l.map (renV f) → liveL l' = (liveL l).map f
  | [], [], _ => rfl
  | [], _ :: _, h => by simp at h
  | _ :: _, [], h => by simp at h
  | v :: l, u :: l', h => by
    rw [List.map_cons, List.map_cons] at h
    injection h with h1 h2
    rw [liveL, liveL, (strip_eq h1).2.2.2.2, live_strip h2, List.map_append]
    congr 1
    unfold renL
    rw [List.map_map, List.map_map]; rfl
theorem mem_distinct {a : Nat} : ∀ {l : List Nat}, a ∈ distinct l ↔ a ∈ l
  | [] => Iff.rfl
  | b :: r => by
    rw [distinct]
    by_cases q : b ∈ distinct r
    · rw [if_pos q, mem_distinct, List.mem_cons]
      constructor
      · exact .inr
      · rintro (rfl | h)
        · exact mem_distinct.1 q
        · exact h
    · rw [if_neg q, List.mem_cons, List.mem_cons, mem_distinct]
theorem distinct_map {f : Nat → Nat} : ∀ {l : List Nat}, (∀ a ∈ l, ∀ b ∈ l, f a = f b → a = b) → distinct (l.map f) = (distinct l).map f
  | [], _ => rfl
  | b :: r, h => by
    have ih := distinct_map (f := f) (l := r) (fun a ha b hb => h a (by simp [ha]) b (by simp [hb]))
    rw [List.map_cons, distinct, distinct, ih]
    by_cases q : b ∈ distinct r
    · rw [if_pos q, if_pos (List.mem_map.2 ⟨b, q, rfl⟩)]
    · rw [if_neg q, if_neg, List.map_cons]
      intro hm
      obtain ⟨a, ha, e⟩ := List.mem_map.1 hm
      have ha' := mem_distinct.1 ha
      have := h a (by simp [ha']) b (by simp) e
      exact q (this ▸ ha)
theorem mem_live {c : Nat} : ∀ {l : List Vo}, c ∈ liveL l ↔ 0 < cnt l c
  | [] => by simp [liveL, cnt]
  | v :: r => by
    rw [liveL, List.mem_append, cnt_cons, mem_live]
    have : c ∈ v.pl.map (·.2) ↔ 0 < cntL c v.pl := by
      rw [cntL_pos, List.mem_map]
    rw [this]; omega
theorem Iso.count (I : Iso S T f) : countS T = countS S := by
  unfold countS
  rw [live_strip I.vols, distinct_map (fun a ha b hb e => I.inj a b (mem_live.1 ha) (mem_live.1 hb) e), List.length_map]
theorem dump_strip {g h : Vo → List UInt8} {f : Nat → Nat} : ∀ {l l' : List Vo}, l'.map stripV = l.map (renV f) → (∀ v ∈ l, ∀ u, stripV u = renV f v → g u = h v) → l'.map g = l.map h
  | [], [], _, _ => rfl
  | [], _ :: _, h, _ => by simp at h
  | _ :: _, [], h, _ => by simp at h
  | v :: l, u :: l', h, k => by
    rw [List.map_cons, List.map_cons] at h
    injection h with h1 h2
    rw [List.map_cons, List.map_cons, k v (by simp) u h1, dump_strip h2 (fun v hv => k v (by simp [hv]))]
theorem Iso.dump (I : Iso S T f) : dumpS T = dumpS S := by
  unfold dumpS
  refine dump_strip I.vols (fun v hv u e => ?_)
  rw [I.read hv e, (strip_eq e).2.1, I.k]
end
/-- What is told of a volume. -/
def infoV (v : Vo) : Int × Int × Bool × Int := (v.id, v.size, v.pin, v.fr)
def infoS (S : MS) : List (Int × Int × Bool × Int) := S.vols.map infoV
theorem info_strip {f : Nat → Nat} : ∀ {l l' : List Vo}, l'.map stripV = l.map (renV f) → l'.map infoV = l.map infoV
  | [], [], _ => rfl
  | [], _ :: _, h => by simp at h
  | _ :: _, [], h => by simp at h
  | v :: l, u :: l', h => by
    rw [List.map_cons, List.map_cons] at h
    injection h with h1 h2
    obtain ⟨e1, e2, e3, e4, _⟩ := strip_eq h1
    rw [List.map_cons, List.map_cons, info_strip h2]
    unfold infoV
    rw [e1, e2, e3, e4]
theorem Iso.info {S T : MS} {f : Nat → Nat} (I : Iso S T f) : infoS T = infoS S := info_strip I.vols
/-! ### what a state is behind an order -/
section
variable {S S1 : MS}
theorem Good.own (G : Good S) (W : Wf S) {v : Vo} (hv : v ∈ S.vols) {p c : Nat} (hp : (p : Int) < v.size) (h : Own S v p S1 c) : Good S1 ∧ (∀ s ∈ S1.sec c, s.length = 16) ∧ (S1.sec c).length = S1.k := by
  have h16 : ∀ x, (x % S.k < S.k) → (secS S v x).length = 16 := fun x hx => by
    unfold secS
    cases hg : getL ((x / S.k : Nat) : Int) v.pl with
    | none => rfl
    | some d =>
      dsimp only
      have hs := G.secs v hv _ (getL_mem hg)
      dsimp only at hs
      rw [List.getD_eq_getElem?_getD, List.getElem?_eq_getElem (by rw [hs.1]; exact hx)]
      exact hs.2 _ (List.getElem_mem _)
  have hk := G.k1
  rcases h with ⟨g1, c1, rfl⟩ | ⟨g1, c1, rfl⟩
  · have := G.secs v hv _ (getL_mem g1)
    exact ⟨G, this.2, this.1⟩
  · have hnew : ∀ s ∈ (List.range S.k).map (fun i => secS S v (p * S.k + i)), s.length = 16 := fun s hs => by
      obtain ⟨i, hi, rfl⟩ := List.mem_map.1 hs
      exact h16 _ (Nat.mod_lt _ (by omega))
    refine ⟨⟨G.k1, G.k8, ?_, ?_, ?_, ?_, ?_⟩, ?_, ?_⟩
    · intro u hu
      rcases mem_repV hu with rfl | ⟨hu, _⟩
      · exact G.ids v hv
      · exact G.ids u hu
    · intro u hu
      rcases mem_repV hu with rfl | ⟨hu, _⟩
      · exact G.sizes v hv
      · exact G.sizes u hu
    · intro u hu
      rcases mem_repV hu with rfl | ⟨hu, _⟩
      · exact (G.rise v hv).put _ _
      · exact G.rise u hu
    · intro u hu x hx
      rcases mem_repV hu with rfl | ⟨hu, _⟩
      · rcases mem_putL.1 hx with rfl | ⟨hx, _⟩
        · exact ⟨by dsimp only; omega, hp⟩
        · exact G.keys v hv x hx
      · exact G.keys u hu x hx
    · intro u hu x hx
      show (upd S.sec c _ x.2).length = S.k ∧ ∀ s ∈ upd S.sec c _ x.2, s.length = 16
      by_cases q : x.2 = c
      · rw [q, upd_same]; exact ⟨by simp, hnew⟩
      · rw [upd_ne _ _ q]
        rcases mem_repV hu with rfl | ⟨hu, _⟩
        · rcases mem_putL.1 hx with rfl | ⟨hx, _⟩
          · exact absurd rfl q
          · exact G.secs v hv x hx
        · exact G.secs u hu x hx
    · show ∀ s ∈ upd S.sec c _ c, s.length = 16
      rw [upd_same]; exact hnew
    · show (upd S.sec c _ c).length = S.k
      rw [upd_same]; simp
theorem Good.setC (G : Good S) {c i : Nat} {s : List UInt8} (hs : s.length = 16) (h1 : ∀ s ∈ S.sec c, s.length = 16) (h2 : (S.sec c).length = S.k) : Good (setC S c i s) := by
  refine ⟨G.k1, G.k8, G.ids, G.sizes, G.rise, G.keys, fun u hu x hx => ?_⟩
  show (upd S.sec c _ x.2).length = S.k ∧ ∀ s ∈ upd S.sec c _ x.2, s.length = 16
  by_cases q : x.2 = c
  · rw [q, upd_same]
    refine ⟨by rw [List.length_set]; exact h2, fun t ht => ?_⟩
    rcases List.mem_or_eq_of_mem_set ht with h | rfl
    · exact h1 t h
    · exact hs
  · rw [upd_ne _ _ q]; exact G.secs u hu x hx
end
end Go.Proofs.YtlcepoagpocadaaGreatDoor
/- A state stays good. -/
namespace Go.Proofs.YtlcepoagpocadaaGreatDoor
open Go Go.RowKit
theorem find_info {id : Int} : ∀ {l l' : List Vo}, l'.map infoV = l.map infoV →
    (∀ v, l.find? (fun v => decide (v.id = id)) = some v → ∃ u, l'.find? (fun v => decide (v.id = id)) = some u ∧ infoV u = infoV v) ∧
    (l.find? (fun v => decide (v.id = id)) = none → l'.find? (fun v => decide (v.id = id)) = none)
  | [], [], _ => ⟨fun v h => by simp at h, fun _ => rfl⟩
  | [], _ :: _, h => by simp at h
  | _ :: _, [], h => by simp at h
  | v :: l, u :: l', h => by
    rw [List.map_cons, List.map_cons] at h
    injection h with h1 h2
    have e : u.id = v.id := congrArg (fun x => x.1) h1
    have ih := find_info (id := id) h2
    rw [List.find?_cons, List.find?_cons, e]
    by_cases q : v.id = id
    · simp only [q, decide_true]
      exact ⟨fun w hw => by cases hw; exact ⟨u, rfl, h1⟩, fun hw => by cases hw⟩
    · simp only [q, decide_false]
      exact ih
theorem rep_info {v v' : Vo} (e : infoV v' = infoV v) : ∀ {l : List Vo}, (l.Pairwise fun a b => a.id < b.id) → v ∈ l → (repV v' l).map infoV = l.map infoV := by
  intro l nd hv
  unfold repV
  rw [List.map_map]
  apply List.map_congr_left
  intro u hu
  simp only [Function.comp]
  have e1 : v'.id = v.id := congrArg (fun x => x.1) e
  by_cases q : u.id = v'.id
  · rw [if_pos q, e, pw_ne nd hu hv (by rw [q, e1])]
  · rw [if_neg q]
section
variable {S S1 : MS}
theorem info_find (e : infoS S1 = infoS S) {id : Int} {v : Vo} (h : findV S id = some v) : ∃ u, findV S1 id = some u ∧ infoV u = infoV v := (find_info e).1 v h
theorem info_find_none (e : infoS S1 = infoS S) {id : Int} (h : findV S id = none) : findV S1 id = none := (find_info e).2 h
theorem own_info (W : Wf S) {v : Vo} (hv : v ∈ S.vols) {p c : Nat} (h : Own S v p S1 c) : infoS S1 = infoS S ∧ S1.k = S.k := by
  rcases h with ⟨_, _, rfl⟩ | ⟨_, _, rfl⟩
  · exact ⟨rfl, rfl⟩
  · exact ⟨rep_info (v := v) (v' := { v with pl := putL (p : Int) c v.pl }) rfl W.nd hv, rfl⟩
theorem set_info (W : Wf S) {id : Int} {x : Nat} {s : List UInt8} (h : SetR S id x s S1) : infoS S1 = infoS S ∧ S1.k = S.k := by
  obtain ⟨v, S2, c, hf, ho, rfl⟩ := h
  have := own_info W (findV_mem hf).1 ho
  exact this
theorem infoV_size {u v : Vo} (e : infoV u = infoV v) : u.size = v.size := congrArg (fun x => x.2.1) e
theorem div_lt_of {x k : Nat} {z : Int} (hz : 0 ≤ z) (h : (x : Int) < z * k) : ((x / k : Nat) : Int) < z := by
  obtain ⟨n, rfl⟩ : ∃ n : Nat, z = (n : Int) := ⟨z.toNat, by omega⟩
  have h2 : x < n * k := by exact_mod_cast h
  have := Nat.div_lt_of_lt_mul (m := x) (n := k) (k := n) (by rw [Nat.mul_comm]; exact h2)
  exact_mod_cast this
theorem Good.set (G : Good S) (W : Wf S) {id : Int} {v : Vo} {x : Nat} {s : List UInt8} (hf : findV S id = some v) (hx : (x : Int) < v.size * S.k) (hs : s.length = 16) (h : SetR S id x s S1) : Good S1 := by
  obtain ⟨v', S2, c, hf', ho, rfl⟩ := h
  rw [hf] at hf'
  cases hf'
  have hv := (findV_mem hf).1
  obtain ⟨g1, g2, g3⟩ := G.own W hv (div_lt_of (G.sizes v hv).1 hx) ho
  exact g1.setC hs g2 g3
theorem good_wr {id : Int} {v : Vo} : ∀ {l : List (List UInt8)} {S : MS} {x : Nat}, Good S → Wf S → findV S id = some v → ((x + l.length : Nat) : Int) ≤ v.size * S.k → (∀ s ∈ l, s.length = 16) → WrR l S id x S1 → Good S1 ∧ Wf S1 ∧ infoS S1 = infoS S ∧ S1.k = S.k
  | [], S, x, G, W, _, _, _, h => by
    have h : S1 = S := h
    rw [h]; exact ⟨G, W, rfl, rfl⟩
  | s :: r, S, x, G, W, hf, hl, hs, h => by
    obtain ⟨S2, a, b⟩ := h
    rw [List.length_cons] at hl
    have G2 := G.set W hf (by omega) (hs s (by simp)) a
    have W2 := W.set a
    obtain ⟨i1, i2⟩ := set_info W a
    obtain ⟨u, hu, e⟩ := info_find i1 hf
    have := good_wr (v := u) (l := r) (S := S2) (x := x + 1) G2 W2 hu (by rw [infoV_size e, i2]; omega) (fun t ht => hs t (by simp [ht])) b
    exact ⟨this.1, this.2.1, this.2.2.1.trans i1, this.2.2.2.trans i2⟩
theorem Good.rep (G : Good S) {v v' : Vo} (hv : v ∈ S.vols) (hid : v'.id = v.id) (hz : 0 ≤ v'.size ∧ v'.size ≤ 64) (hr : Rise v'.pl) (hk : ∀ x ∈ v'.pl, 0 ≤ x.1 ∧ x.1 < v'.size) (hs : ∀ x ∈ v'.pl, x ∈ v.pl) : Good (putS S v') := by
  refine ⟨G.k1, G.k8, ?_, ?_, ?_, ?_, ?_⟩
  · intro u hu
    rcases mem_repV hu with rfl | ⟨hu, _⟩
    · rw [hid]; exact G.ids v hv
    · exact G.ids u hu
  · intro u hu
    rcases mem_repV hu with rfl | ⟨hu, _⟩
    · exact hz
    · exact G.sizes u hu
  · intro u hu
    rcases mem_repV hu with rfl | ⟨hu, _⟩
    · exact hr
    · exact G.rise u hu
  · intro u hu
    rcases mem_repV hu with rfl | ⟨hu, _⟩
    · exact hk
    · exact G.keys u hu
  · intro u hu x hx
    rcases mem_repV hu with rfl | ⟨hu, _⟩
    · exact G.secs v hv x (hs x hx)
    · exact G.secs u hu x hx
theorem good_dis (G : Good S) (W : Wf S) {id : Int} {v : Vo} {a n x : Nat} (hf : findV S id = some v) (hx : (x : Int) < v.size * S.k) (h : DisS S id a n x S1) : Good S1 ∧ Wf S1 ∧ infoS S1 = infoS S ∧ S1.k = S.k := by
  have W1 := W.dis h
  obtain ⟨v', hf', h⟩ := h
  rw [hf] at hf'
  cases hf'
  have hv := (findV_mem hf).1
  cases hg : getL ((x / S.k : Nat) : Int) v.pl with
  | none => rw [hg] at h; dsimp only at h; rw [h]; exact ⟨G, W, rfl, rfl⟩
  | some c =>
    rw [hg] at h
    dsimp only at h
    by_cases q : wholeS S.k a n (x / S.k) = true
    · rw [if_pos q] at h
      subst h
      exact ⟨G.rep (v := v) (v' := { v with pl := delL ((x / S.k : Nat) : Int) v.pl }) hv rfl (G.sizes v hv) ((G.rise v hv).del _) (fun y hy => G.keys v hv y (mem_delL.1 hy).1) (fun y hy => (mem_delL.1 hy).1), W1, rep_info (v := v) (v' := { v with pl := delL ((x / S.k : Nat) : Int) v.pl }) rfl W.nd hv, rfl⟩
    · rw [if_neg q] at h
      obtain ⟨i1, i2⟩ := set_info W h
      exact ⟨G.set W hf hx rfl h, W1, i1, i2⟩
theorem good_disR {id : Int} {v : Vo} {a n : Nat} (G : Good S) (W : Wf S) (hf : findV S id = some v) : ∀ (i : Nat) {S1 : MS}, ((a + i : Nat) : Int) ≤ v.size * S.k → DisR S id a n i S1 → Good S1 ∧ Wf S1 ∧ infoS S1 = infoS S ∧ S1.k = S.k
  | 0, S1, _, h => by
    have h : S1 = S := h
    rw [h]; exact ⟨G, W, rfl, rfl⟩
  | i + 1, S1, hl, h => by
    obtain ⟨S2, p, q⟩ := h
    obtain ⟨G2, W2, i1, i2⟩ := good_disR G W hf i (by omega) p
    obtain ⟨u, hu, e⟩ := info_find i1 hf
    have := good_dis G2 W2 hu (by rw [infoV_size e, i2]; omega) q
    exact ⟨this.1, this.2.1, this.2.2.1.trans i1, this.2.2.2.trans i2⟩
theorem range_zero {id x n : Int} (h : rangeS S id x n = 0) : ∃ v, findV S id = some v ∧ 0 ≤ x ∧ 1 ≤ n ∧ n ≤ 2 * S.k ∧ x + n ≤ v.size * S.k := by
  unfold rangeS at h
  cases hf : findV S id with
  | none => rw [hf] at h; simp at h
  | some v =>
    rw [hf] at h
    dsimp only at h
    by_cases q : x < 0 ∨ n < 1 ∨ 2 * (S.k : Int) < n
    · rw [if_pos q] at h; simp at h
    · rw [if_neg q] at h
      by_cases r : v.size * S.k < x ∨ v.size * S.k - x < n
      · rw [if_pos r] at h; simp at h
      · exact ⟨v, rfl, by omega, by omega, by omega, by omega⟩
theorem cut16_len (d : List UInt8) : (cut16 d).length = d.length / 16 := by unfold cut16; simp
theorem cut16_16 (d : List UInt8) : ∀ s ∈ cut16 d, s.length = 16 := by
  intro s hs
  unfold cut16 at hs
  obtain ⟨i, hi, rfl⟩ := List.mem_map.1 hs
  have := List.mem_range.1 hi
  rw [List.length_take, List.length_drop]; omega
theorem good_do (G : Good S) (W : Wf S) {k : Nat} {ns : List Int} {ts : List (List UInt8)} {e : Int} {d : List UInt8} {t : Bool} (h : DoR S k ns ts e d t S1) : Good S1 ∧ Wf S1 ∧ S1.k = S.k := by
  unfold DoR at h
  by_cases q : ts.all (fun t => decide (t.length ≤ 512)) = false
  · rw [if_pos q] at h
    obtain ⟨rfl, rfl, rfl, rfl⟩ := h
    exact ⟨G, W, rfl⟩
  · rw [if_neg q] at h
    generalize ns.getD 0 0 = a0 at h
    generalize ns.getD 1 0 = a1 at h
    generalize ns.getD 2 0 = a2 at h
    generalize ts.getD 0 [] = t0 at h
    split at h
    · obtain ⟨⟨b, pb, e1⟩, -, -⟩ := h
      unfold createS at e1
      by_cases r : a0 < 1 ∨ 16 < a0 ∨ a1 < 0 ∨ 64 < a1
      · rw [if_pos r] at e1; cases e1; exact ⟨G, W, rfl⟩
      · rw [if_neg r] at e1
        cases hf : findV S a0 with
        | some v => rw [hf] at e1; cases e1; exact ⟨G, W, rfl⟩
        | none =>
          rw [hf] at e1
          cases e1
          have hno : ∀ u ∈ S.vols, u.id ≠ a0 := fun u hu e => by
            have := List.find?_eq_none.1 hf u hu
            simp [e] at this
          refine ⟨⟨G.k1, G.k8, ?_, ?_, ?_, ?_, ?_⟩, ⟨insV_pw W.nd hno, ?_⟩, rfl⟩
          · intro u hu
            rcases mem_insV.1 hu with rfl | hu
            · exact ⟨by dsimp only; omega, by dsimp only; omega⟩
            · exact G.ids u hu
          · intro u hu
            rcases mem_insV.1 hu with rfl | hu
            · exact ⟨by dsimp only; omega, by dsimp only; omega⟩
            · exact G.sizes u hu
          · intro u hu
            rcases mem_insV.1 hu with rfl | hu
            · exact List.Pairwise.nil
            · exact G.rise u hu
          · intro u hu
            rcases mem_insV.1 hu with rfl | hu
            · intro x hx; cases hx
            · exact G.keys u hu
          · intro u hu
            rcases mem_insV.1 hu with rfl | hu
            · intro x hx; cases hx
            · exact G.secs u hu
          · intro u hu
            rcases mem_insV.1 hu with rfl | hu
            · exact List.Pairwise.nil
            · exact W.rise u hu
    · obtain ⟨e1, -, -⟩ := h
      unfold deleteS at e1
      cases hf : findV S a0 with
      | none => rw [hf] at e1; cases e1; exact ⟨G, W, rfl⟩
      | some v =>
        rw [hf] at e1
        cases e1
        exact ⟨⟨G.k1, G.k8, fun u hu => G.ids u (mem_remV.1 hu).1, fun u hu => G.sizes u (mem_remV.1 hu).1, fun u hu => G.rise u (mem_remV.1 hu).1, fun u hu => G.keys u (mem_remV.1 hu).1, fun u hu => G.secs u (mem_remV.1 hu).1⟩,
          ⟨List.Pairwise.filter _ W.nd, fun u hu => W.rise u (mem_remV.1 hu).1⟩, rfl⟩
    · obtain ⟨⟨b, pb, e1⟩, -, -⟩ := h
      unfold snapS at e1
      cases hf : findV S a0 with
      | none => rw [hf] at e1; cases e1; exact ⟨G, W, rfl⟩
      | some v =>
        rw [hf] at e1
        dsimp only at e1
        have hv := (findV_mem hf).1
        by_cases r : a1 < 1 ∨ 16 < a1
        · rw [if_pos r] at e1; cases e1; exact ⟨G, W, rfl⟩
        · rw [if_neg r] at e1
          cases hf2 : findV S a1 with
          | some v2 => rw [hf2] at e1; cases e1; exact ⟨G, W, rfl⟩
          | none =>
            rw [hf2] at e1
            cases e1
            have hno : ∀ u ∈ S.vols, u.id ≠ a1 := fun u hu e => by
              have := List.find?_eq_none.1 hf2 u hu
              simp [e] at this
            refine ⟨⟨G.k1, G.k8, ?_, ?_, ?_, ?_, ?_⟩, ⟨insV_pw W.nd hno, ?_⟩, rfl⟩
            · intro u hu
              rcases mem_insV.1 hu with rfl | hu
              · exact ⟨by dsimp only; omega, by dsimp only; omega⟩
              · exact G.ids u hu
            · intro u hu
              rcases mem_insV.1 hu with rfl | hu
              · exact G.sizes v hv
              · exact G.sizes u hu
            · intro u hu
              rcases mem_insV.1 hu with rfl | hu
              · exact G.rise v hv
              · exact G.rise u hu
            · intro u hu
              rcases mem_insV.1 hu with rfl | hu
              · exact G.keys v hv
              · exact G.keys u hu
            · intro u hu
              rcases mem_insV.1 hu with rfl | hu
              · exact G.secs v hv
              · exact G.secs u hu
            · intro u hu
              rcases mem_insV.1 hu with rfl | hu
              · exact W.rise v hv
              · exact W.rise u hu
    · obtain ⟨e1, -, -⟩ := h
      unfold resizeS at e1
      cases hf : findV S a0 with
      | none => rw [hf] at e1; cases e1; exact ⟨G, W, rfl⟩
      | some v =>
        rw [hf] at e1
        dsimp only at e1
        have hv := (findV_mem hf).1
        by_cases r : a1 < 0 ∨ 64 < a1
        · rw [if_pos r] at e1; cases e1; exact ⟨G, W, rfl⟩
        · rw [if_neg r] at e1
          cases e1
          have hr : Rise (trimL a1 v.pl) := List.Pairwise.filter _ (G.rise v hv)
          have hm : ∀ x ∈ trimL a1 v.pl, x ∈ v.pl ∧ x.1 < a1 := fun x hx => by
            have := List.mem_filter.1 hx
            exact ⟨this.1, of_decide_eq_true this.2⟩
          exact ⟨G.rep (v := v) (v' := { v with size := a1, pl := trimL a1 v.pl }) hv rfl ⟨by dsimp only; omega, by dsimp only; omega⟩ hr (fun x hx => ⟨(G.keys v hv x (hm x hx).1).1, (hm x hx).2⟩) (fun x hx => (hm x hx).1),
            W.put (v := { v with size := a1, pl := trimL a1 v.pl }) hr, rfl⟩
    · obtain ⟨e1, -, -⟩ := h
      unfold pinS at e1
      cases hf : findV S a0 with
      | none => rw [hf] at e1; cases e1; exact ⟨G, W, rfl⟩
      | some v =>
        rw [hf] at e1
        cases e1
        have hv := (findV_mem hf).1
        exact ⟨G.rep (v := v) (v' := { v with pin := true }) hv rfl (G.sizes v hv) (G.rise v hv) (G.keys v hv) (fun x hx => hx), W.put (v := { v with pin := true }) (W.rise v hv), rfl⟩
    · obtain ⟨e1, -, -⟩ := h
      unfold pinS at e1
      cases hf : findV S a0 with
      | none => rw [hf] at e1; cases e1; exact ⟨G, W, rfl⟩
      | some v =>
        rw [hf] at e1
        cases e1
        have hv := (findV_mem hf).1
        exact ⟨G.rep (v := v) (v' := { v with pin := false }) hv rfl (G.sizes v hv) (G.rise v hv) (G.keys v hv) (fun x hx => hx), W.put (v := { v with pin := false }) (W.rise v hv), rfl⟩
    · obtain ⟨rfl, -, -, -⟩ := h
      exact ⟨G, W, rfl⟩
    · obtain ⟨-, -, -, h⟩ := h
      by_cases r : writeE S a0 a1 t0 = 0
      · rw [if_pos r] at h
        unfold writeE at r
        cases hf : findV S a0 with
        | none => rw [hf] at r; simp at r
        | some v =>
          rw [hf] at r
          dsimp only at r
          by_cases q2 : t0.length % 16 ≠ 0
          · rw [if_pos q2] at r; simp at r
          · rw [if_neg q2] at r
            obtain ⟨v', hv', h1, h2, h3, h4⟩ := range_zero r
            rw [hf] at hv'
            cases hv'
            have := good_wr (l := cut16 t0) (x := a1.toNat) G W hf (by rw [cut16_len]; omega) (cut16_16 t0) h
            exact ⟨this.1, this.2.1, this.2.2.2⟩
      · rw [if_neg r] at h; rw [h]; exact ⟨G, W, rfl⟩
    · obtain ⟨-, -, -, h⟩ := h
      by_cases r : rangeS S a0 a1 a2 = 0
      · rw [if_pos r] at h
        obtain ⟨v, hf, h1, h2, h3, h4⟩ := range_zero r
        have := good_disR (a := a1.toNat) (n := a2.toNat) G W hf a2.toNat (by omega) h
        exact ⟨this.1, this.2.1, this.2.2.2⟩
      · rw [if_neg r] at h; rw [h]; exact ⟨G, W, rfl⟩
    · obtain ⟨-, -, -, rfl⟩ := h
      exact ⟨G, W, rfl⟩
    · obtain ⟨-, -, -, rfl⟩ := h
      exact ⟨G, W, rfl⟩
end
end Go.Proofs.YtlcepoagpocadaaGreatDoor
