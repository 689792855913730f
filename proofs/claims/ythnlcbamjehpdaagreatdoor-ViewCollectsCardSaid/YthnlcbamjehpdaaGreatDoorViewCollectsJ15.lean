/- Part 15. -/
import Derived.Test.YthnlcbamjehpdaaGreatDoorViewCollectsJ14
namespace Go.Proofs.YthnlcbamjehpdaaGreatDoor
set_option linter.unusedVariables false
set_option maxHeartbeats 16000000
set_option maxRecDepth 100000
section
open Go Go.RowKit
open Go.MapKept Go.WideElems Go.ChangeMaps in
open Go.MapKept Go.WideElems Go.ChangeMaps in
theorem Ptp.new{Z:Pz}{w wr w':World}{z:Nat}(h:Ptp Z w Z wr)(hg:wr.grownBy w' (some z))(hz:Z.has z∨w.heap.size<=z):Ptp Z w Z w':=
 ⟨rfl,rfl,h.turn.trans (F':=fun b=>b=z) (Turn.of_grown hg fun y hy=>by injection hy with hy;exact hy.symm) fun b hb=>by rw [hb];exact hz,fun b hb=> .inl hb⟩
end
end Go.Proofs.YthnlcbamjehpdaaGreatDoor
