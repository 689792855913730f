/- The meta page: the closures of Steps. -/
import Derived.Test.YtpmndmgfoiagnaaDoorMetB
import Derived.StillTailTactics
import Derived.IntWalk
namespace Go.Proofs.YtpmndmgfoiagnaaDoor
open Go Go.RowKit
set_option linter.unusedVariables false

set_option maxHeartbeats 2000000 in
set_option maxRecDepth 100000 in
theorem mclos1_any (h : Zn) (D : Dsk) (g bm : Nat) (a : Int) (num : Nat) (last : Int) (w : World) (hd : Dk w h D) (hok : D.Ok) (hm : Mk w g h a num last) (hb : Blk w bm 28 #[.pointer (some ⟨g, 0, none⟩)]) :
    Calls Tryd.prog 24 #[.pointer (some ⟨bm, 0, none⟩)] w fun e w' => e = .returned (.int .i64 0) ∧ ∃ h', Dk w' h' D.sync ∧ Stp h w h' w' := by
  have m0 : w.cell? ⟨g, 0, none⟩ = some (.pointer (some ⟨h.g, 0, none⟩)) := hm.blk.cell 0
  have b0 : w.cell? ⟨bm, 0, none⟩ = some (.pointer (some ⟨g, 0, none⟩)) := hb.cell 0
  have HD := Lib.hid hd
  have HOK := Lib.hid hok
  clear hd hok hm hb
  go_enter Tryd.func24, Tryd.ntmps24
  go_wp2_with fail
  refine (dsync_any h D w HD.out HOK.out).mono ?_
  rintro e w1 ⟨rfl, h', h1, h2⟩
  go_wp2_with fail
  go_ret
  exact ⟨rfl, h', h1, h2⟩

set_option maxHeartbeats 2000000 in
set_option maxRecDepth 100000 in
theorem mclos2_any (h : Zn) (D : Dsk) (g bm bo : Nat) (a o : Int) (num : Nat) (last : Int) (w : World) (hd : Dk w h D) (hok : D.Ok) (hlen : D.pend.length ≤ 1000000) (hm : Mk w g h a num last) (h0 : 0 ≤ a) (h1 : a ≤ 65534) (ho0 : 0 ≤ o) (ho1 : o ≤ 1)
    (hb : Blk w bm 28 #[.pointer (some ⟨g, 0, none⟩)]) (hbo : Blk w bo 3 #[.int .i64 o]) :
    Calls Tryd.prog 26 #[.pointer (some ⟨bm, 0, none⟩), .pointer (some ⟨bo, 0, none⟩)] w fun e w' => e = .returned (.int .i64 0) ∧ ∃ h', Dk w' h' (D.free (a + o)) ∧ Stp h w h' w' := by
  have m0 : w.cell? ⟨g, 0, none⟩ = some (.pointer (some ⟨h.g, 0, none⟩)) := hm.blk.cell 0
  have m1 : w.cell? ⟨g, 1, none⟩ = some (.int .i64 a) := hm.blk.cell 1
  have b0 : w.cell? ⟨bm, 0, none⟩ = some (.pointer (some ⟨g, 0, none⟩)) := hb.cell 0
  have o0 : w.cell? ⟨bo, 0, none⟩ = some (.int .i64 o) := hbo.cell 0
  have HD : Hid (Dk w.drew h D) := hd.later (below_drewN (Below.refl _ _) 1)
  have HOK := Lib.hid hok
  have hi : InI (a + o) := by unfold InI; omega
  have HB : Hid (Stp h w h w.drew) := Stp.below (below_drewN (Below.refl _ _) 1)
  clear hd hok hm hb hbo
  go_enter Tryd.func26, Tryd.ntmps26
  go_wp2_with fail
  go_still_tail 10, (by kernel_rfl)
  change wpList _ _ _ _ _ w.drew
  generalize w.drew = w2 at *
  go_wp2_with fail
  refine (dfree_any h D (a + o) _ HD.out HOK.out hi (by omega)).mono ?_
  rintro e w1 ⟨rfl, h', h1, h2⟩
  go_wp2_with fail
  go_ret
  exact ⟨rfl, h', h1, HB.out.trans h2⟩

set_option maxHeartbeats 2000000 in
set_option maxRecDepth 100000 in
theorem mclos3_any (h : Zn) (D : Dsk) (g bm bo bb : Nat) (a o : Int) (num : Nat) (last : Int) (S : Nat → Prop) (v0 : Value) (b : List UInt8) (w : World) (hd : Dk w h D) (hok : D.Ok) (hlen : D.pend.length ≤ 1000000) (hm : Mk w g h a num last) (h0 : 0 ≤ a) (h1 : a ≤ 65534) (ho0 : 0 ≤ o) (ho1 : o ≤ 1)
    (hb : Blk w bm 28 #[.pointer (some ⟨g, 0, none⟩)]) (hbo : Blk w bo 3 #[.int .i64 o]) (hbb : Blk w bb 75 #[v0]) (hv : Bs S w v0 b) (hbl : b.length ≤ 1099511627776) :
    Calls Tryd.prog 28 #[.pointer (some ⟨bm, 0, none⟩), .pointer (some ⟨bo, 0, none⟩), .pointer (some ⟨bb, 0, none⟩)] w fun e w' => e = .returned (.int .i64 (D.why (a + o) b : Int)) ∧ ∃ h', Dk w' h' (D.write (a + o) b) ∧ Stp h w h' w' := by
  have m0 : w.cell? ⟨g, 0, none⟩ = some (.pointer (some ⟨h.g, 0, none⟩)) := hm.blk.cell 0
  have m1 : w.cell? ⟨g, 1, none⟩ = some (.int .i64 a) := hm.blk.cell 1
  have b0 : w.cell? ⟨bm, 0, none⟩ = some (.pointer (some ⟨g, 0, none⟩)) := hb.cell 0
  have o0 : w.cell? ⟨bo, 0, none⟩ = some (.int .i64 o) := hbo.cell 0
  have v00 : w.cell? ⟨bb, 0, none⟩ = some v0 := hbb.cell 0
  have HD : Hid (Dk w.drew h D) := hd.later (below_drewN (Below.refl _ _) 1)
  have HV : Hid (Bs S w.drew v0 b) := Sl.drew hv
  have HOK := Lib.hid hok
  have hi : InI (a + o) := by unfold InI; omega
  have HB : Hid (Stp h w h w.drew) := Stp.below (below_drewN (Below.refl _ _) 1)
  obtain ⟨A, c, rfl, -⟩ := hv.at
  clear hd hok hm hb hbo hbb hv
  go_enter Tryd.func28, Tryd.ntmps28
  go_wp2_with fail
  go_still_tail 11, (by kernel_rfl)
  change wpList _ _ _ _ _ w.drew
  generalize w.drew = w2 at *
  go_wp2_with fail
  refine (dwrite_any h D (a + o) S _ b _ HD.out HOK.out hi HV.out hbl (by omega)).mono ?_
  rintro e w1 ⟨rfl, h', h1, h2⟩
  go_wp2_with fail
  go_ret
  exact ⟨rfl, h', h1, HB.out.trans h2⟩
end Go.Proofs.YtpmndmgfoiagnaaDoor
