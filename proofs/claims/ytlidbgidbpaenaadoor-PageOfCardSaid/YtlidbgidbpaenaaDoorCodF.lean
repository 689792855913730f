/- code.Reader.Flag: what it returns. -/
import Derived.Test.YtlidbgidbpaenaaDoorCodT
import Derived.RegionTactic
namespace Go.Proofs.YtlidbgidbpaenaaDoor
open Go Go.RowKit
set_option linter.unusedVariables false

/-- Reader.Flag: what is taken, what is left, the fault. -/
def rdFlag (l : List UInt8) (err : Nat) : Bool × List UInt8 × Nat :=
  if err ≠ 0 then (false, l, err) else match l with
    | [] => (false, [], 30)
    | b :: r => if 1 < b.toNat then (false, b :: r, 33) else (b.toNat == 1, r, 0)

set_option maxHeartbeats 400000 in
theorem rbad_any (g B gb : Nat) (l : List UInt8) (e0 : Nat) (w : World) (hr : Rd w g B l 0) (he : e0 ≤ 1000) (hb : Blk w gb 68 #[.pointer (some ⟨g, 0, none⟩)]) :
    Calls Tryd.prog 69 #[.int .i64 e0, .pointer (some ⟨gb, 0, none⟩)] w fun e w' => e = .returned (.bool false) ∧ Rd w' g B l e0 ∧ w.grownBy w' (some g) := by
  have c0 : w.cell? ⟨gb, 0, none⟩ = some (.pointer (some ⟨g, 0, none⟩)) := hb.cell 0
  have HC := Lib.hid (fail_any g B l 0 e0 w hr he (by omega))
  clear hb hr
  go_enter Tryd.func69, Tryd.ntmps69
  go_wp2_with fail
  refine HC.out.mono ?_
  rintro e w1 ⟨rfl, hr1, hg1⟩
  go_wp2_with fail
  go_ret
  exact ⟨rfl, hr1, hg1⟩

theorem beq_nat_int (n : Nat) : (((n : Int)) == 1) = (n == 1) := by
  rw [Bool.eq_iff_iff, beq_iff_eq, beq_iff_eq]
  omega
theorem grown_drew {w w' : World} {row : Option Nat} (h : w.grownBy w' row) : w.grownBy w'.drew row := ⟨h.os, h.tape, h.output, h.size, h.block⟩
set_option maxHeartbeats 1000000 in
set_option maxRecDepth 100000 in
theorem rflag_any (g B : Nat) (l : List UInt8) (err : Nat) (w : World) (hr : Rd w g B l err) (hB : B ≤ w.heap.size) (hl : l.length ≤ 1099511627776) :
    Calls Tryd.prog 47 #[.pointer (some ⟨g, 0, none⟩)] w fun e w' => e = .returned (.bool (rdFlag l err).1) ∧ Rd w' g B (rdFlag l err).2.1 (rdFlag l err).2.2 ∧ w.grownBy w' (some g) := by
  have hmf := run_makeFunc Tryd.prog
  have hnb := Blk.new w 68 #[.pointer (some ⟨g, 0, none⟩)]
  have hgl := hr.lt
  have hrl := hr.later ((Below.refl _ _).alloc (Nat.le_refl _) (.cells #[.pointer (some ⟨g, 0, none⟩)] 68))
  have hgr : w.grownBy (w.alloc (.cells #[.pointer (some ⟨g, 0, none⟩)] 68)) (some g) := below_grownBy ((Below.refl _ _).alloc (Nat.le_refl _) _) _
  have p0 : (w.alloc (.cells #[.pointer (some ⟨g, 0, none⟩)] 68)).cell? ⟨w.heap.size, 0, none⟩ = some (.pointer (some ⟨g, 0, none⟩)) := hnb.cell 0
  obtain ⟨A, k, c, hb, hub⟩ := id hrl
  have d0 : (w.alloc (.cells #[.pointer (some ⟨g, 0, none⟩)] 68)).cell? ⟨g, 0, none⟩ = some (.slice A k c) := hb.cell 0
  have d1 : (w.alloc (.cells #[.pointer (some ⟨g, 0, none⟩)] 68)).cell? ⟨g, 1, none⟩ = some (.int .i64 (err : Int)) := hb.cell 1
  have f0 := hb.free 0
  have f1 := hb.free 1
  obtain rfl := hub.len
  have HU := Lib.hid hub
  have HBK := Lib.hid hb
  have HRL := Lib.hid hrl
  clear hr hub hb hrl
  by_cases h0 : err = 0
  · subst h0
    rcases l with _ | ⟨x, l⟩
    · have HV : Hid (rdFlag [] 0 = (false, [], 30)) := by unfold rdFlag; rw [Hid, if_neg (by simp)]
      have HC := Lib.hid (rbad_any g B w.heap.size [] 30 _ HRL.out (by omega) hnb)
      go_enter Tryd.func47, Tryd.ntmps47
      go_wp2_with fail
      refine HC.out.mono ?_
      rintro e w1 ⟨rfl, hr1, hg1⟩
      go_wp2_with fail
      go_ret
      rw [HV.out]
      exact ⟨rfl, hr1, hgr.trans hg1⟩
    · obtain ⟨A', c', hv, hlc, hcm, _, hcell⟩ := Bs.at HU.out
      injection hv with hA _ hc
      subst hA hc
      obtain ⟨b, o, rfl, hS, hcc⟩ := hcell (by simp)
      have cx : (w.alloc (.cells #[.pointer (some ⟨g, 0, none⟩)] 68)).cell? ⟨b, o, none⟩ = some (.int .u8 (x.toNat : Int)) := by
        have := hcc 0 (by simp)
        simpa using this
      have hlen : (x :: l).length = l.length + 1 := rfl
      have hxb := x.toNat_lt
      have HCUT : Hid (Ub (w.alloc (.cells #[.pointer (some ⟨g, 0, none⟩)] 68)) B _ _) := Bs.cut HU.out (show 1 ≤ (x :: l).length by simp)
      rw [hlen] at d0 hlc
      have HLEN := Lib.hid hlen
      clear hcell hcc hlen
      by_cases hx : 1 < x.toNat
      · have HV : Hid (rdFlag (x :: l) 0 = (false, x :: l, 33)) := by unfold rdFlag; rw [Hid, if_neg (by simp)]; simp only; rw [if_pos hx]
        have HC := Lib.hid (rbad_any g B w.heap.size (x :: l) 33 _ HRL.out (by omega) hnb)
        go_enter Tryd.func47, Tryd.ntmps47
        go_wp2_with fail
        refine HC.out.mono ?_
        rintro e w1 ⟨rfl, hr1, hg1⟩
        go_wp2_with fail
        go_ret
        rw [HV.out]
        exact ⟨rfl, hr1, hgr.trans hg1⟩
      · have HV : Hid (rdFlag (x :: l) 0 = (x.toNat == 1, l, 0)) := by unfold rdFlag; rw [Hid, if_neg (by simp)]; simp only; rw [if_neg hx]
        rw [HLEN.out, Nat.add_sub_cancel, List.drop_succ_cons, List.drop_zero] at HCUT
        by_cases hc1 : c = 1
        case' pos =>
          rw [if_pos hc1] at HCUT
          subst hc1
          have hl0 : l.length = 0 := by omega
          rw [hl0] at HCUT
        case' neg =>
          rw [if_neg hc1] at HCUT
        all_goals
          go_enter Tryd.func47, Tryd.ntmps47
          go_wp2_with fail
          generalize w.alloc (.cells #[.pointer (some ⟨g, 0, none⟩)] 68) = W at *
          go_region
          all_goals
            go_wp2_with fail
            go_ret
            rw [HV.out]
            exact ⟨by simp only [beq_nat_int]; rfl, ⟨_, _, _, Blk.drew (HBK.out.put 0 _), (Ub.beside HCUT HBK.out (by decide) (grown_drew (grown_put _ _ _ _)))⟩, hgr.trans (grown_drew (grown_put _ _ _ _))⟩
  · have HV : Hid (rdFlag l err = (false, l, err)) := by unfold rdFlag; rw [Hid, if_pos h0]
    have t0 : ((err : Int) != 0) = true := by rw [bne_iff_ne]; omega
    clear h0
    go_enter Tryd.func47, Tryd.ntmps47
    go_wp2_with fail
    go_ret
    rw [HV.out]
    exact ⟨rfl, HRL.out, hgr⟩
end Go.Proofs.YtlidbgidbpaenaaDoor
