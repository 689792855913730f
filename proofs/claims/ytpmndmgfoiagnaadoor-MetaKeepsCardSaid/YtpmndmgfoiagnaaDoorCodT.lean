/- The code of layer 3, more: Reader.Num, Reader.Text. -/
import Derived.Test.YtpmndmgfoiagnaaDoorCodB
import Derived.Test.YtpmndmgfoiagnaaDoorRecP
namespace Go.Proofs.YtpmndmgfoiagnaaDoor
open Go Go.RowKit
set_option linter.unusedVariables false

theorem rdErrP_eq (e : Nat) : rdErrP e = rdErr e := rfl
set_option maxHeartbeats 1000000 in
theorem rnum_any (g B : Nat) (l : List UInt8) (err : Nat) (w : World) (hr : Rd w g B l err) (hB : B ≤ w.heap.size) (hl : l.length ≤ 1099511627776) :
    Calls Tryd.prog 58 #[.pointer (some ⟨g, 0, none⟩)] w fun e w' => e = .returned (.int .u64 ((rdNum l err).1 : Int)) ∧ Rd w' g B (rdNum l err).2.1 (rdNum l err).2.2 ∧ w.grownBy w' (some g) := by
  have no : ∀ err', rdNum l err = (0, l, err') → (Calls Tryd.prog 71 #[.pointer (some ⟨g, 0, none⟩)] w fun e w' => e = .returned (.tuple #[.int .u64 0, .slice none 0 0, .bool false]) ∧ Rd w' g B l err' ∧ w.grownBy w' (some g)) →
      Calls Tryd.prog 58 #[.pointer (some ⟨g, 0, none⟩)] w fun e w' => e = .returned (.int .u64 ((rdNum l err).1 : Int)) ∧ Rd w' g B (rdNum l err).2.1 (rdNum l err).2.2 ∧ w.grownBy w' (some g) := by
    intro err' hrc hb
    have HRC := Lib.hid hrc
    have HBL := Lib.hid hb
    clear hrc hb
    go_enter Tryd.func58, Tryd.ntmps58
    go_wp2_with fail
    refine HBL.out.mono ?_
    rintro e w1 ⟨rfl, hr1, hg1⟩
    go_wp2_with fail
    go_ret
    rw [HRC.out]
    exact ⟨rfl, hr1, hg1⟩
  by_cases h0 : err = 0
  · subst h0
    cases hgv : getVarB l with
    | error er =>
      exact no (rdErr er) (by unfold rdNum; rw [if_neg (by simp), hgv]; rfl) (rtake_err g B l er w hr hl hgv)
    | ok xn =>
      obtain ⟨x, n⟩ := xn
      have HRC : Hid (rdNum l 0 = (x, l.drop n, 0)) := by unfold rdNum; rw [if_neg (by simp), hgv]; rfl
      have HBL := Lib.hid (rtake_ok g B l x n w hr hl hgv)
      have HR := Lib.hid hr
      clear no hr
      go_enter Tryd.func58, Tryd.ntmps58
      go_wp2_with fail
      refine HBL.out.mono ?_
      rintro e w1 ⟨A1, k1, c1, rfl, hown1, hbl1⟩
      obtain ⟨A, k, c, hb1, _⟩ := HR.out.later hbl1
      have d0 : w1.cell? ⟨g, 0, none⟩ = some (.slice A k c) := hb1.cell 0
      have f0 := hb1.free 0
      go_wp2_with fail
      go_ret
      rw [HRC.out]
      exact ⟨rfl, ⟨A1, k1, c1, hb1.put 0 _, (Ub.of_own (hown1.lower hB)).beside hb1 (by decide) (grown_put _ _ _ _)⟩, (below_grownBy hbl1 _).trans (grown_put _ _ _ _)⟩
  · refine no err (by unfold rdNum; rw [if_pos h0]) ((rtake_old g B l err w hr h0).mono ?_)
    rintro e w1 ⟨rfl, rfl⟩
    exact ⟨rfl, hr, World.grownBy.refl _ _⟩


theorem below_size {g B : Nat} {w w' : World} (h : w.grownBy w' (some g)) : w.heap.size ≤ w'.heap.size := h.size
set_option maxHeartbeats 1000000 in
set_option maxRecDepth 100000 in
theorem rtext_no (g B : Nat) (l : List UInt8) (w : World) (err' : Nat)
    (hb : Calls Tryd.prog 72 #[.pointer (some ⟨g, 0, none⟩), takeFn g, .int .i64 65536] w fun e w' => e = .returned (.tuple #[.int .i64 0, .slice none 0 0, .bool false]) ∧ Rd w' g B l err' ∧ w.grownBy w' (some g)) :
    Calls Tryd.prog 59 #[.pointer (some ⟨g, 0, none⟩)] w fun e w' => e = .returned (.string (st [])) ∧ Rd w' g B l err' ∧ w.grownBy w' (some g) := by
  have hmf := run_makeFunc Tryd.prog
  have HBL := Lib.hid hb
  clear hb
  go_enter Tryd.func59, Tryd.ntmps59
  go_wp2_with fail
  refine HBL.out.mono ?_
  rintro e w1 ⟨rfl, hr1, hg1⟩
  go_wp2_with fail
  go_ret
  exact ⟨rfl, hr1, hg1⟩
set_option maxHeartbeats 1000000 in
set_option maxRecDepth 100000 in
theorem rtext_short (g B : Nat) (l : List UInt8) (x n : Nat) (w : World) (hr : Rd w g B l 0) (hl : l.length ≤ 1099511627776) (hg : getVarB l = .ok (x, n)) (hx : x ≤ 65536) (hs : (l.drop n).length < x) :
    Calls Tryd.prog 59 #[.pointer (some ⟨g, 0, none⟩)] w fun e w' => e = .returned (.string (st [])) ∧ Rd w' g B l 30 ∧ w.grownBy w' (some g) := by
  have hmf := run_makeFunc Tryd.prog
  have HBL := Lib.hid (below_ok g B l x n 65536 w hr hl hg (by omega) (by omega))
  have HR := Lib.hid hr
  clear hr
  generalize l.drop n = m at *
  go_enter Tryd.func59, Tryd.ntmps59
  go_wp2_with fail
  refine HBL.out.mono ?_
  rintro e w1 ⟨A1, k1, c1, rfl, hown1, hbl1⟩
  obtain rfl := hown1.len
  have HR1 := Lib.hid (HR.out.later hbl1)
  have t0 : decide (m.length < x) = true := by rw [decide_eq_true_eq]; exact hs
  go_wp2_with fail
  refine (fail_any g B l 0 30 w1 HR1.out (by omega) (by omega)).mono ?_
  rintro e w2 ⟨rfl, hr2, hg2⟩
  go_wp2_with fail
  go_ret
  exact ⟨rfl, hr2, (below_grownBy hbl1 _).trans hg2⟩
set_option maxHeartbeats 1000000 in
set_option maxRecDepth 100000 in
theorem rtext_ok (g B : Nat) (l : List UInt8) (x n : Nat) (w : World) (hr : Rd w g B l 0) (hB : B ≤ w.heap.size) (hl : l.length ≤ 1099511627776) (hg : getVarB l = .ok (x, n)) (hx : x ≤ 65536) (hs : ¬ (l.drop n).length < x) :
    Calls Tryd.prog 59 #[.pointer (some ⟨g, 0, none⟩)] w fun e w' => e = .returned (.string (st ((l.drop n).take x))) ∧ Rd w' g B ((l.drop n).drop x) 0 ∧ w.grownBy w' (some g) := by
  have hmf := run_makeFunc Tryd.prog
  have HBL := Lib.hid (below_ok g B l x n 65536 w hr hl hg (by omega) (by omega))
  have HR := Lib.hid hr
  have hll : (l.drop n).length ≤ 1099511627776 := by rw [List.length_drop]; omega
  clear hr
  generalize l.drop n = m at *
  go_enter Tryd.func59, Tryd.ntmps59
  go_wp2_with fail
  refine HBL.out.mono ?_
  rintro e w1 ⟨A1, k1, c1, rfl, hown1, hbl1⟩
  obtain rfl := hown1.len
  obtain ⟨A, k, c, hb1, _⟩ := HR.out.later hbl1
  have d0 : w1.cell? ⟨g, 0, none⟩ = some (.slice A k c) := hb1.cell 0
  have f0 := hb1.free 0
  have HB1 := Lib.hid hb1
  have t0 : decide (m.length < x) = false := by rw [decide_eq_false_iff_not]; exact hs
  have hxm : x ≤ m.length := by omega
  clear hs hb1
  rcases hown1.2 with ⟨hv, hn⟩ | ⟨g1, cap, cur, hv, _, _, hnc, hcm, _⟩
  · injection hv with hA _ hc
    subst hA hc
    obtain rfl : m = [] := List.eq_nil_of_length_eq_zero hn
    obtain rfl : x = 0 := by simpa using hxm
    have cv := run_string_of_bs (P := Tryd.prog) (Bs.nilv (fun _ => True) (w1.setCell ⟨g, 0, none⟩ (.slice none 0 0))) tB tU tS
    clear hown1
    go_wp2_with fail
    go_ret
    exact ⟨rfl, ⟨none, 0, 0, HB1.out.put 0 _, Bs.nilv _ _⟩, (below_grownBy hbl1 _).trans (grown_put _ _ _ _)⟩
  · injection hv with hA _ hc
    subst hA hc
    have hu := (Ub.of_own (hown1.lower hB)).beside HB1.out (by decide) (grown_put w1 g 0 (.slice (if c1 = x then some ⟨g1, 0, none⟩ else some ⟨g1, 0 + x, none⟩) (m.length - x) (c1 - x)))
    have cv := run_string_of_bs (P := Tryd.prog) (Bs.pre hu.bs hxm) tB tU tS
    have hcut : Hid (Ub (w1.setCell ⟨g, 0, none⟩ (.slice (if c1 = x then some ⟨g1, 0, none⟩ else some ⟨g1, 0 + x, none⟩) (m.length - x) (c1 - x))) B _ _) := Bs.cut hu hxm
    clear hown1 hu
    by_cases hcx : c1 = x
    · rw [if_pos hcx] at cv hcut
      subst hcx
      rw [Nat.sub_self, show m.length - c1 = 0 by omega] at cv hcut
      go_wp2_with fail
      go_ret
      exact ⟨rfl, ⟨_, _, _, HB1.out.put 0 _, hcut⟩, (below_grownBy hbl1 _).trans (grown_put _ _ _ _)⟩
    · rw [if_neg hcx, Nat.zero_add] at cv hcut
      go_wp2_with fail
      go_ret
      exact ⟨rfl, ⟨_, _, _, HB1.out.put 0 _, hcut⟩, (below_grownBy hbl1 _).trans (grown_put _ _ _ _)⟩

set_option maxHeartbeats 1000000 in
theorem rtext_any (g B : Nat) (l : List UInt8) (err : Nat) (w : World) (hr : Rd w g B l err) (hB : B ≤ w.heap.size) (hl : l.length ≤ 1099511627776) :
    Calls Tryd.prog 59 #[.pointer (some ⟨g, 0, none⟩)] w fun e w' => e = .returned (.string (st (rdText l err).1)) ∧ Rd w' g B (rdText l err).2.1 (rdText l err).2.2 ∧ w.grownBy w' (some g) := by
  by_cases h0 : err = 0
  · subst h0
    cases hgv : getVarB l with
    | error er =>
      have e : rdText l 0 = ([], l, rdErr er) := by unfold rdText; rw [if_neg (by simp), hgv]; rfl
      rw [e]
      exact rtext_no g B l w _ (below_no g B l 65536 w 0 _ (rtake_err g B l er w hr hl hgv))
    | ok xn =>
      obtain ⟨x, n⟩ := xn
      by_cases hx : 65536 < x
      · have e : rdText l 0 = ([], l, 32) := by unfold rdText; rw [if_neg (by simp), hgv]; simp only; rw [if_pos hx]
        rw [e]
        exact rtext_no g B l w _ (below_big g B l x n 65536 w hr hl hgv (by omega) (by omega) (by omega))
      · by_cases hs : (l.drop n).length < x
        · have e : rdText l 0 = ([], l, 30) := by unfold rdText; rw [if_neg (by simp), hgv]; simp only; rw [if_neg hx, if_pos hs]
          rw [e]
          exact rtext_short g B l x n w hr hl hgv (by omega) hs
        · have e : rdText l 0 = ((l.drop n).take x, (l.drop n).drop x, 0) := by unfold rdText; rw [if_neg (by simp), hgv]; simp only; rw [if_neg hx, if_neg hs]
          rw [e]
          exact rtext_ok g B l x n w hr hB hl hgv (by omega) hs
  · have e : rdText l err = ([], l, err) := by unfold rdText; rw [if_pos h0]
    rw [e]
    refine rtext_no g B l w _ (below_no g B l 65536 w err err ((rtake_old g B l err w hr h0).mono ?_))
    rintro e w1 ⟨rfl, rfl⟩
    exact ⟨rfl, hr, World.grownBy.refl _ _⟩
end Go.Proofs.YtpmndmgfoiagnaaDoor
