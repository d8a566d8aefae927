import Derived.Test.YthkcdoneghcglaaDoorShelfA
/- The library's WriteString at this program: the laying is strings.Join's. -/
namespace Go.Proofs
open Go.Shelf
theorem Tryd.lays166 : Go.Proofs.Lays.n166 Tryd.prog Tryd.lays156_ren := { Tryd.lays156 with }
open Go.RowKit in
theorem Tryd.Builder_WriteString_k (B b : Nat) (bs : List Value) (s : ByteArray) (w : World) (h : Lib.IsBuilderF 74 5 B b bs w) (hlen : bs.length + s.size ≤ 140737488355328) (hBw : B ≤ w.heap.size) :
    Calls Tryd.prog 34 #[.pointer (some ⟨b, 0, none⟩), .string s] w fun e w' => e = .returned (.tuple #[.int .i64 s.size, .nilIface]) ∧ (Lib.BuilderAtF 74 5 B b (.pointer (some ⟨b, 0, none⟩)) (bs ++ Lib.strCells s) w' ∧ Below B w w' ∧ Lib.OthersKept 5 (some b) w w') := Any.Builder_WriteString_k Tryd.lays166 Tryd.Builder_Extra_156 B b bs s w h hlen hBw
end Go.Proofs
