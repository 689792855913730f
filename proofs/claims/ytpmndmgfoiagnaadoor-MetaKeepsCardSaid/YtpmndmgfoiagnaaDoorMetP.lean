/- The meta page: plain functions. -/
import Derived.Test.YtpmndmgfoiagnaaDoorDskQ
import Derived.Test.YtpmndmgfoiagnaaDoorRecP
namespace Go.Proofs.YtpmndmgfoiagnaaDoor
open Go
set_option linter.unusedVariables false

/-- What a sector's bytes tell: a number above 0, and a body. -/
def tellsB (s : List UInt8) : Option (Nat × List UInt8) := match recGet s with
  | some ((q, t), n) => if n = s.length ∧ 0 < q then some (q, t) else none
  | none => none
/-- One sector more is looked at. -/
def mtStep (f : SF) (a : Int) (x : Nat × Int × List UInt8) (i : Int) : Nat × Int × List UInt8 := match f (a + i) with
  | some s => match tellsB s with
    | some (q, t) => if x.1 < q then (q, i, t) else x
    | none => x
  | none => x
def mtOpen (f : SF) (a : Int) : Nat × Int × List UInt8 := mtStep f a (mtStep f a (0, 1, []) 0) 1
def mtErr (x : Nat × Int × List UInt8) : Nat := if x.1 = 0 then 121 else 0

/-- The disk, the number and the last sector, behind so many steps; whether it was done; why not. -/
structure MtSt where
  D : Dsk
  num : Nat
  last : Int
  done : Bool
  err : Nat
def mtSteps (D : Dsk) (a : Int) (num : Nat) (last : Int) (body : List UInt8) (k : Int) : MtSt :=
  if 480 < body.length then ⟨D, num, last, false, 120⟩
  else if k < 1 then ⟨D, num, last, false, 0⟩
  else if k < 2 then ⟨D.free (a + (1 - last)), num, last, false, 0⟩
  else if k < 3 then ⟨(D.free (a + (1 - last))).sync, num, last, false, 0⟩
  else if (D.free (a + (1 - last))).sync.why (a + (1 - last)) (recB ((num + 1) % U64) body) ≠ 0 then
    ⟨(D.free (a + (1 - last))).sync, num, last, false, (D.free (a + (1 - last))).sync.why (a + (1 - last)) (recB ((num + 1) % U64) body)⟩
  else if k < 4 then ⟨(D.free (a + (1 - last))).sync.write (a + (1 - last)) (recB ((num + 1) % U64) body), num, last, false, 0⟩
  else ⟨((D.free (a + (1 - last))).sync.write (a + (1 - last)) (recB ((num + 1) % U64) body)).sync, (num + 1) % U64, 1 - last, true, 0⟩
end Go.Proofs.YtpmndmgfoiagnaaDoor
