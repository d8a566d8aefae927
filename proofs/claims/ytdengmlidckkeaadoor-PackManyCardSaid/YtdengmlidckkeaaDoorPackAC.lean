import Derived.Test.YtdengmlidckkeaaDoorPackAB
set_option linter.unusedSimpArgs false
set_option linter.unusedVariables false
namespace Go.Proofs.YtdengmlidckkeaaDoor
open Go Go.RowKit
set_option maxRecDepth 10000 in
set_option maxHeartbeats 1000000 in
theorem read_po {o : PO} (h : o.ok) (l : List UInt8) (hl : l.length ≤ 1000) (w : World) :
    Calls Tryd.prog 23 #[.string ⟨(packO o ++ l).toArray⟩] w fun e w' => e = .returned (.tuple #[poVal o, .int .i64 (packO o).length, .int .i64 0]) ∧ Same w w' := by
  refine opq fun Rr HR => ?_
  have hpl := packO_len h
  have HOf := Lib.hid (of_any (packO o ++ l) w)
  have HOr := Lib.hid (fun E R sh u bad w hS h1 h2 => po_order h E R l sh u bad w hS h1 h2)
  have hbs := bytes_size (packO o ++ l)
  have hal : (packO o ++ l).length = (packO o).length + l.length := List.length_append
  obtain ⟨T, x, hv⟩ := poVal_iface o
  rw [hv] at HOr HR
  clear hv
  generalize hA : packO o ++ l = A at *
  have HA := Lib.hid hA
  clear hA
  generalize (packO o).length = p at *
  go_enter Tryd.func23, Tryd.ntmps23
  go_wp2_with fail
  refine HOf.out.mono ?_
  rintro e w1 ⟨rfl, hB, M1⟩
  have KB := Lib.hid hB
  have K1 := Lib.hid M1
  have hwl : w.heap.size < w1.heap.size := hB.lt
  clear M1 hB HOf
  go_wp2_with fail
  have ES := Lib.hid (show EyeS (w1.alloc (.cells #[rptr w.heap.size, .int .i64 0, .bool false] 78)) w1.heap.size w.heap.size A false 0 false from ⟨Blk.new w1 _ _, KB.out.alloc _, by omega⟩)
  have K3 := Lib.hid (K1.out.alloc (.cells #[rptr w.heap.size, .int .i64 0, .bool false] 78))
  generalize w1.alloc _ = W at *
  generalize hE : w1.heap.size = E at *
  generalize hR : w.heap.size = R at *
  refine (HOr.out E R false 0 false W ES.out (by omega) (by omega)).mono ?_
  rintro e w2 ⟨rfl, h1, h2⟩
  rw [Int.zero_add] at h1
  have P1 := Lib.hid h1
  have P2 := Lib.hid (K3.out.then_ h2 (fun i hi q => by rcases q with q | q <;> omega))
  have hc := h1.eye.cell
  have hlt := h1.eye.lt
  clear h1 h2 K3 ES KB K1 HOr HA
  have hpa : decide ((A.length : Int) < (p : Int)) = false := decide_eq_false (by omega)
  go_wp2_with fail
  go_big_quiet (fail)
  go_wp2
  exact HR.out _ _ ⟨rfl, P2.out.drewN _⟩
end Go.Proofs.YtdengmlidckkeaaDoor
