/- What the proof of WalPlays needs, part 17. -/
import Derived.Test.YtojlldalhhibmaaGreatDoorWalPlaysJ16

namespace Go.Proofs.YtojlldalhhibmaaGreatDoor
open Go Go.RowKit
set_option linter.unusedVariables false

/-- A block of a function's text, by its number. -/
def blockAt (n : Nat) : Code → Option Code
  | .block id c => match Nat.beq id n with
    | true => some (.block id c)
    | false => blockAt n c
  | .loop c => blockAt n c
  | .scope c => blockAt n c
  | .seq a b => match blockAt n a with
    | some c => some c
    | none => blockAt n b
  | .cond _ a b => match blockAt n a with
    | some c => some c
    | none => blockAt n b
  | _ => none
noncomputable def wpSw : Code := (Tryz.f3.body.bind (blockAt 2)).getD .skip
/-- Behind i acts. -/
def WpSt (w : World) (ds a : Int) (nn ss gk pd i : Nat) (mv : Value) (wr : World) : Prop :=
  ∃ (gl : Nat) (h' : Zn) (l : Wl) (Z1 : Option Addr) (z1 : Nat) (Z2 : Option Addr) (z2 : Nat) (Z3 : Option Addr) (z3 : Nat) (Z4 : Option Addr) (z4 : Nat), mv = .pointer (some ⟨gl, 0, none⟩) ∧ Hid (Lp w wr gl h' l) ∧ Hid (Ky w wr #[.int .i64 ds, .int .i64 a, .int .i64 (nn : Int), .int .i64 (ss : Int)] gk l Z1 z1 Z2 z2 Z3 z3 Z4 z4) ∧ Hid (LxP l a nn ss i) ∧ Hid (h'.g = pd)
end Go.Proofs.YtojlldalhhibmaaGreatDoor
