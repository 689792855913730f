/- What the proof of PagerLeast needs, part 7. -/
import Derived.Test.YtildohndbeagaaaGreatDoorPagerLeastJ4
import Derived.Test.YtildohndbeagaaaGreatDoorPagerLeastJ5
import Derived.Test.YtildohndbeagaaaGreatDoorPagerLeastJ6

namespace Go.Proofs.YtildohndbeagaaaGreatDoor
open Go
set_option linter.unusedVariables false

/-- Tables: where a page is, how many bytes it has. -/
abbrev TF := Int → Option (Nat × Nat)
def TF.put (t : TF) (a : Int) (x : Nat × Nat) : TF := fun y => if y = a then some x else t y
/-- Which of the pages 0 to 89 are there. -/
def idsOf {α : Type} (f : Int → Option α) : List Nat := (List.range 90).filter fun i => (f (i : Int)).isSome
/-- Only pages 0 to 89 are there. -/
def In90 {α : Type} (f : Int → Option α) : Prop := ∀ x, (f x).isSome = true → 0 ≤ x ∧ x < 90
/-- A count that can be taken away from. -/
def decI (s : Int) : Int := IntKind.i64.wrap (s - 1)

/-- A pager: its disk, where it is, the meta page, the table as it was committed, what was written since, what was given back. -/
structure Pgr where
  D : Dsk
  a : Int
  n : Nat
  num : Nat
  last : Int
  tag : Nat
  tb : TF
  wr : SF
  gn : Int → Bool
def Pgr.has (P : Pgr) (x : Int) : Bool := (P.wr x).isSome || ((P.tb x).isSome && !P.gn x)
def Pgr.pages (P : Pgr) : List Nat := (List.range 90).filter fun i => P.has (i : Int)
def pgWhy (x : Int) (b : List UInt8) : Nat := if x < 0 ∨ 90 ≤ x then 131 else if 2048 < b.length then 132 else 0
def gnPut (g : Int → Bool) (x : Int) (v : Bool) : Int → Bool := fun y => if y = x then v else g y
def Pgr.put (P : Pgr) (x : Int) (b : List UInt8) : Pgr := { P with wr := P.wr.put x b, gn := gnPut P.gn x false }
def Pgr.write (P : Pgr) (x : Int) (b : List UInt8) : Pgr := if pgWhy x b = 0 then P.put x b else P
def Pgr.free (P : Pgr) (x : Int) : Pgr := if P.has x then { P with wr := P.wr.del x, gn := gnPut P.gn x true } else P
def Pgr.least (P : Pgr) : Option Nat := (List.range 90).find? fun i => !P.has (i : Int)
def Pgr.alloc (P : Pgr) (b : List UInt8) : Pgr × Nat × Nat := if 2048 < b.length then (P, 0, 132) else match P.least with
  | some i => (P.put (i : Int) b, i, 0)
  | none => (P, 0, 133)
def Pgr.drop (P : Pgr) : Pgr := { P with wr := fun _ => none, gn := fun _ => false }

/-! ### What is to be committed -/
/-- Which places the table's pages have, but for those that are left. -/
def takenT (n : Nat) (t : TF) (left : Int → Bool) : List Bool := (List.range n).map fun p => (List.range 90).any fun i => !left (i : Int) && (match t (i : Int) with | some x => x.1 == p | none => false)
def keptT (t : TF) (g : Int → Bool) (left : Int → Bool) : TF := fun x => if left x || g x then none else t x
def assignT (wr : SF) : List Bool → List Nat → TF → Option TF
  | _, [], t => some t
  | l, i :: r, t => match firstFree l with
    | some p => assignT wr (flipAt l p) r (t.put (i : Int) (p, ((wr (i : Int)).getD []).length))
    | none => none
def noLeft : Int → Bool := fun _ => false
def Pgr.next (P : Pgr) : Option TF := assignT P.wr (takenT P.n P.tb noLeft) (idsOf P.wr) (keptT P.tb P.gn noLeft)
def rowB (t : TF) (i : Nat) : List UInt8 := varB i ++ (varB ((t (i : Int)).getD (0, 0)).1 ++ varB ((t (i : Int)).getD (0, 0)).2)
/-- What the meta page is to tell. -/
def tellsT (tag : Nat) (t : TF) : List UInt8 := varB tag ++ (varB (idsOf t).length ++ (idsOf t).flatMap (rowB t))

/-! ### The steps -/
def chunk (b : List UInt8) (k : Nat) : List UInt8 := (b.drop (512 * k)).take 512
def chunksN (b : List UInt8) : Nat := (b.length + 511) / 512
def secAt (a : Int) (p : Nat) : Int := a + 2 + 4 * (p : Int)
/-- What is to be written of one page, from the k-th part on. -/
def pageW (x : Int) (b : List UInt8) (k m : Nat) : List (Int × List UInt8) := (List.range' k m).map fun j : Nat => (x + (j : Int), chunk b j)
def pageL (a : Int) (t : TF) (wr : SF) (i : Nat) : List (Int × List UInt8) := pageW (secAt a ((t (i : Int)).getD (0, 0)).1) ((wr (i : Int)).getD []) 0 (chunksN ((wr (i : Int)).getD []))
def wrL (a : Int) (t : TF) (wr : SF) (ids : List Nat) : List (Int × List UInt8) := ids.flatMap (pageL a t wr)
/-- So many writes: the disk, what is left of the steps; where it ends, the reason. -/
def stepW : Dsk → Int → List (Int × List UInt8) → Dsk × Int × Option Nat
  | D, s, [] => (D, s, none)
  | D, s, x :: r => if decI s < 0 then (D, decI s, some 0) else if D.why x.1 x.2 = 0 then stepW (D.write x.1 x.2) (decI s) r else (D, decI s, some (D.why x.1 x.2))
structure PgSt where
  P : Pgr
  done : Bool
  err : Nat
def Pgr.fin (P : Pgr) (t : TF) (tag : Nat) (m : MtSt) : PgSt :=
  if m.done then ⟨{ P with D := m.D, num := m.num, last := m.last, tag := tag, tb := t, wr := fun _ => none, gn := fun _ => false }, true, m.err⟩
  else ⟨{ P with D := m.D, num := m.num, last := m.last }, false, m.err⟩
def Pgr.steps1 (P : Pgr) (t : TF) (tag : Nat) (r : Dsk × Int × Option Nat) : PgSt := match r.2.2 with
  | some e => ⟨{ P with D := r.1 }, false, e⟩
  | none => if decI r.2.1 < 0 then ⟨{ P with D := r.1 }, false, 0⟩ else P.fin t tag (mtSteps r.1.sync P.a P.num P.last (tellsT tag t) (decI r.2.1))
def Pgr.steps (P : Pgr) (tag : Nat) (k : Int) : PgSt := match P.next with
  | none => ⟨P, false, 133⟩
  | some t => P.steps1 t tag (stepW P.D k (wrL P.a t P.wr (idsOf P.wr)))

/-! ### What a meta page tells -/
structure PcSt where
  rest : List UInt8
  err : Nat
  last : Int
  used : List Bool
  t : TF
def pcOne (n : Nat) (s : PcSt) : Option PcSt :=
  let x := rdCount s.rest s.err 89
  let y := rdCount x.2.1 x.2.2 ((n : Int) - 1)
  let z := rdCount y.2.1 y.2.2 2048
  if (rdEnd z.2.1 z.2.2 ≠ 0 ∧ rdEnd z.2.1 z.2.2 ≠ 31) ∨ (x.1 : Int) ≤ s.last ∨ (claimB s.used (y.1 : Int)).2 ≠ 0 then none
  else some ⟨z.2.1, z.2.2, (x.1 : Int), (claimB s.used (y.1 : Int)).1, s.t.put (x.1 : Int) (y.1, z.1)⟩
def pcLoop (n : Nat) : Nat → PcSt → Option PcSt
  | 0, s => some s
  | k + 1, s => match pcOne n s with
    | some s' => pcLoop n k s'
    | none => none
def pcInit (n : Nat) (body : List UInt8) : PcSt :=
  ⟨(rdCount (rdNum body 0).2.1 (rdNum body 0).2.2 90).2.1, (rdCount (rdNum body 0).2.1 (rdNum body 0).2.2 90).2.2, -1, List.replicate n false, fun _ => none⟩
def pgParse (n : Nat) (body : List UInt8) : Option (Nat × TF) := match pcLoop n (rdCount (rdNum body 0).2.1 (rdNum body 0).2.2 90).1 (pcInit n body) with
  | some s => if rdEnd s.rest s.err = 0 then some ((rdNum body 0).1, s.t) else none
  | none => none
/-- The pager on a disk; or why there is none. -/
def pgNew (D : Dsk) (a : Int) (n : Nat) (num : Nat) (last : Int) (x : Nat × TF) : Pgr := ⟨D, a, n, num, last, x.1, x.2, fun _ => none, fun _ => false⟩
def pgOpen (D : Dsk) (a : Int) (n : Nat) : Option Pgr :=
  if (mtOpen D.view a).1 = 0 then some (pgNew D a n 0 (mtOpen D.view a).2.1 (0, fun _ => none))
  else (pgParse n (mtOpen D.view a).2.2).map (pgNew D a n (mtOpen D.view a).1 (mtOpen D.view a).2.1)
/-- Which places a pager may have. -/
def pgPl (a n : Int) : Prop := 2 ≤ n ∧ n ≤ 256 ∧ 0 ≤ a ∧ a ≤ 65534 - 4 * n
end Go.Proofs.YtildohndbeagaaaGreatDoor
