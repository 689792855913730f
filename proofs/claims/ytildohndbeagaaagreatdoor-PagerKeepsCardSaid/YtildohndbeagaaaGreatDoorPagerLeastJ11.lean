/- What the proof of PagerLeast needs, part 11. -/
import Derived.Test.YtildohndbeagaaaGreatDoorPagerLeastJ5

namespace Go.Proofs.YtildohndbeagaaaGreatDoor
open Go Go.RowKit
set_option linter.unusedVariables false

def MwPost (h : Zn) (D : Dsk) (g : Nat) (a : Int) (num : Nat) (last : Int) (body : List UInt8) (w : World) (e : Ending) (w' : World) : Prop :=
  e = .returned (.int .i64 ((mtSteps D a num last body 4).err : Nat)) ∧
    ∃ h', Dk w' h' (mtSteps D a num last body 4).D ∧ Mk w' g h' a (mtSteps D a num last body 4).num (mtSteps D a num last body 4).last ∧ Mtp h g w h' w'
set_option maxHeartbeats 1000000 in
theorem mwrite_any (h : Zn) (D : Dsk) (g : Nat) (a : Int) (num : Nat) (last : Int) (body : List UInt8) (w : World) (hd : Dk w h D) (hok : D.Ok) (hlen : D.pend.length ≤ 900000) (hm : Mk w g h a num last) (h0 : 0 ≤ a) (h1 : a ≤ 65534) (hl0 : 0 ≤ last) (hl1 : last ≤ 1)
    (hnum : num < U64) (hbits : BitsOk w) :
    Calls Tryz.prog 15 #[.pointer (some ⟨g, 0, none⟩), .string (st body)] w (MwPost h D g a num last body w) := by
  have HC := Lib.hid (msteps_any h D g a num last body 4 w hd hok hlen hm h0 h1 hl0 hl1 hnum hbits (by unfold InI; omega))
  clear hd hok hlen hm hnum hbits
  go_enter Tryz.func15, Tryz.ntmps15
  go_wp2_with fail
  refine HC.out.mono ?_
  rintro e w1 ⟨rfl, hh⟩
  have HH := Lib.hid hh
  clear hh
  go_wp2_with fail
  go_ret
  exact ⟨rfl, HH.out⟩
end Go.Proofs.YtildohndbeagaaaGreatDoor
