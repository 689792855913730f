/- Part 31. -/
import Derived.Test.YtdkobefpnjbgnaaGreatDoorMovePutsJ29
namespace Go.Proofs.YtdkobefpnjbgnaaGreatDoor
set_option linter.unusedVariables false
set_option maxHeartbeats 16000000
set_option maxRecDepth 100000
section
open Go
theorem zGe(L:List Cel)(x:Chg):(z9W L x).length≤L.length+(if x.gone then 0 else 1):=by
 obtain⟨k,v,gn⟩:=x;unfold z9W;cases gn with
 |true=>
  simp only [if_true]
  split
  ·have:=zGi L k;omega
  ·omega
 |false=>
  have:=z3n L (k,v);simp only [Bool.false_eq_true,if_false];omega
theorem zCv(x:Chg)(r:List Chg):z2N (x::r)=(if x.gone then 0 else 1)+z2N r:=by
 obtain⟨k,v,gn⟩:=x;cases gn
 ·simp [z2N];omega
 ·simp [z2N]
end
section
open Go Go.RowKit
end
section
open Go
end
section
open Go Go.RowKit
end
end Go.Proofs.YtdkobefpnjbgnaaGreatDoor
