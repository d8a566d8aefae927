import Derived.Test.YtdengmlidckkeaaDoorPackX
import Derived.Lib.ItoaLen
set_option linter.unusedSimpArgs false
set_option linter.unusedVariables false
namespace Go.Proofs.YtdengmlidckkeaaDoor
open Go Go.RowKit
/-- An order of a plain kind: delete, pin, flush, tick. -/
structure PO where
  k : Nat
  ns : List Int
def poVal (o : PO) : Value := .iface (kT o.k) (.agg (o.ns.map (Value.int .i64)).toArray)
def PO.ok (o : PO) : Prop := (o.k = 9 ∧ o.ns = []) ∨ ((o.k = 1 ∨ o.k = 4 ∨ o.k = 10) ∧ ∃ n, I64 n ∧ o.ns = [n])
def packO (o : PO) : List UInt8 := packN o.k o.ns
theorem PO.lt {o : PO} (h : o.ok) : o.k < 15 := by rcases h with ⟨h, _⟩ | ⟨h | h | h, _⟩ <;> omega
theorem PO.i64 {o : PO} (h : o.ok) : ∀ n ∈ o.ns, I64 n := by
  rcases h with ⟨_, h⟩ | ⟨_, n, hn, h⟩ <;> rw [h] <;> intro x hx
  · cases hx
  · rw [List.mem_singleton] at hx; rw [hx]; exact hn
theorem PO.len {o : PO} (h : o.ok) : o.ns.length ≤ 1 := by
  rcases h with ⟨_, h⟩ | ⟨_, n, hn, h⟩ <;> rw [h] <;> simp
theorem packO_len {o : PO} (h : o.ok) : 1 ≤ (packO o).length ∧ (packO o).length ≤ 9 := by
  have := PO.len h
  unfold packO packN; rw [List.length_append, leB_len, numsL_len]; omega
theorem PO.text {o : PO} (h : o.ok) : (textN o.k o.ns).length ≤ 140737488355328 := by
  rcases h with ⟨h1, h2⟩ | ⟨h1, n, hn, h2⟩
  · rw [h1, h2]; decide
  · have := Lib.itoa_length_le n hn.1 hn.2
    rw [h2]
    unfold textN
    rw [List.map_singleton, Lib.join_cons]
    have hw : (wordL o.k).length ≤ 10 := by rcases h1 with h1 | h1 | h1 <;> rw [h1] <;> decide
    rw [List.length_append]
    unfold Lib.joinTail
    simp
    omega
theorem PO.parts {o : PO} (h : o.ok) (w : World) : Calls Tryd.prog 42 #[.iface (kT o.k) (.agg (o.ns.map (Value.int .i64)).toArray)] w (PartsV w (o.ns.map (Value.int .i64)) []) := by
  obtain ⟨k, ns⟩ := o
  rcases h with ⟨h1, h2⟩ | ⟨h1 | h1 | h1, n, hn, h2⟩ <;> dsimp only at h1 h2 ⊢ <;> subst h1 <;> subst h2
  · exact parts57 w
  · exact parts62 n w
  · exact parts61 n w
  · exact parts26 n w
theorem po_line {o : PO} (h : o.ok) (w : World) (hT : TabOK w) : Calls Tryd.prog 15 #[poVal o] w fun e w' => e = .returned (.tuple #[.string ⟨(textN o.k o.ns).toArray⟩, .int .i64 0]) ∧ Same w w' :=
  line_any o.k (PO.lt h) o.ns (PO.i64 h) (Nat.le_trans (PO.len h) (by decide)) (PO.text h) _ w hT (PO.parts h)
theorem po_put {o : PO} (h : o.ok) (w : World) (hT : TabOK w) (B b : Nat) (l : List UInt8) (hW : WrF w B b (Lib.byteCells l)) (hlen : l.length ≤ 100000000000000) (hBw : B ≤ w.heap.size) (h4 : 4 < B) :
    Calls Tryd.prog 26 #[.pointer (some ⟨b, 0, none⟩), poVal o] w fun e w' => e = .returned (.int .i64 0) ∧ WrF w' B b (Lib.byteCells (l ++ packO o)) ∧ Below B w w' :=
  pput_any o.k (PO.lt h) o.ns (PO.i64 h) (Nat.le_trans (PO.len h) (by decide)) (PO.text h) _ w hT (PO.parts h) B b l hW hlen hBw h4
theorem po_order {o : PO} (h : o.ok) (E R : Nat) (l : List UInt8) (sh : Bool) (u : Int) (bad : Bool) (w : World) (hS : EyeS w E R (packO o ++ l) sh u bad) (hl : l.length ≤ 100000000000) (hu : 0 ≤ u ∧ u ≤ 100000000000) :
    Calls Tryd.prog 32 #[rptr E] w fun e w' => e = .returned (poVal o) ∧ EyeS w' E R l sh (u + (packO o).length) bad ∧ Mod (fun i => i = E ∨ i = R) w w' := by
  obtain ⟨k, ns⟩ := o
  rcases h with ⟨h1, h2⟩ | ⟨h1 | h1 | h1, n, hn, h2⟩ <;> dsimp only at h1 h2 <;> subst h1 <;> subst h2
  · exact order9 E R l sh u bad w hS hl hu
  · have e : packO ⟨1, [n]⟩ ++ l = leB (2 : Int) 1 ++ (leB (IntKind.u64.wrap n) 8 ++ l) := by unfold packO packN numsL; simp
    rw [e] at hS
    exact order1 E R n hn l sh u bad w hS hl hu
  · have e : packO ⟨4, [n]⟩ ++ l = leB (5 : Int) 1 ++ (leB (IntKind.u64.wrap n) 8 ++ l) := by unfold packO packN numsL; simp
    rw [e] at hS
    exact order4 E R n hn l sh u bad w hS hl hu
  · have e : packO ⟨10, [n]⟩ ++ l = leB (11 : Int) 1 ++ (leB (IntKind.u64.wrap n) 8 ++ l) := by unfold packO packN numsL; simp
    rw [e] at hS
    exact order10 E R n hn l sh u bad w hS hl hu
end Go.Proofs.YtdengmlidckkeaaDoor
