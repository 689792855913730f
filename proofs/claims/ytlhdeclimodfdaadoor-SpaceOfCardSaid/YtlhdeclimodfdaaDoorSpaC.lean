/- The statements of layer 9: the chapter's example (awake); an act (do). -/
import Derived.Test.YtlhdeclimodfdaaDoorSpaB
namespace Go.Proofs.YtlhdeclimodfdaaDoor
open Go Go.RowKit
set_option linter.unusedVariables false

theorem ex_t0 : takeB (List.replicate 5 false) = ([true, false, false, false, false], 0, 0) := by decide +kernel
theorem ex_c3 : claimB [true, false, false, false, false] 3 = ([true, false, false, true, false], 0) := by decide +kernel
theorem ex_t1 : takeB [true, false, false, true, false] = ([true, true, false, true, false], 1, 0) := by decide +kernel
theorem ex_b : spB [true, true, false, true, false] = [5, 0, 2, 1, 1, 1] := by
  have h : runS [true, true, false, true, false] = ((((varB 5 ++ varB 0) ++ varB 2) ++ varB 1) ++ varB 1, 1, false) := rfl
  unfold spB
  rw [h, varB_lo (y := 5) (by omega), varB_lo (y := 0) (by omega), varB_lo (y := 2) (by omega), varB_lo (y := 1) (by omega)]
  rfl
theorem ex_f0 : freeB [true, true, false, true, false] 0 = ([false, true, false, true, false], 0) := by decide +kernel
theorem ex_t2 : takeB [false, true, false, true, false] = ([true, true, false, true, false], 0, 0) := by decide +kernel

set_option maxHeartbeats 2000000 in
set_option maxRecDepth 100000 in
theorem awake9_any (w : World) (hb : TabOk w) :
    Calls Tryd.prog 9 #[] w fun e w' => e = .returned (.bool true) ∧ Below w.heap.size w w' := by
  have HB := Lib.hid hb
  clear hb
  have s1 : (⟨#[5, 0, 2, 1, 1, 1]⟩ : ByteArray) = st [5, 0, 2, 1, 1, 1] := rfl
  go_enter Tryd.func9, Tryd.ntmps9
  go_wp2_with fail
  refine (new_ok 5 w (by omega) (by omega)).mono ?_
  rintro e w1 ⟨rfl, hs1, q1⟩
  go_wp2_with fail
  refine (take_any w.heap.size _ w1 (HB.out.later q1) hs1).mono ?_
  rintro e w2 ⟨rfl, hs2, hg2, _⟩
  rw [ex_t0] at hs2 ⊢
  have q2 := q1.trans (grown_below hg2 (Nat.le_refl _) q1.size)
  clear hs1 hg2 q1
  go_wp2_with fail
  refine (claim_any w.heap.size _ 3 w2 hs2 (by omega)).mono ?_
  rintro e w3 ⟨rfl, hs3, hg3, _⟩
  rw [ex_c3] at hs3 ⊢
  have q3 := q2.trans (grown_below hg3 (Nat.le_refl _) q2.size)
  clear hs2 hg3 q2
  go_wp2_with fail
  refine (take_any w.heap.size _ w3 (HB.out.later q3) hs3).mono ?_
  rintro e w4 ⟨rfl, hs4, hg4, _⟩
  rw [ex_t1] at hs4 ⊢
  have q4 := q3.trans (grown_below hg4 (Nat.le_refl _) q3.size)
  clear hs3 hg4 q3
  go_wp2_with fail
  refine (spbytes_any w.heap.size _ w4 hs4).mono ?_
  rintro e w5 ⟨A5, k5, c5, rfl, hown5, hbl5⟩
  rw [ex_b] at hown5
  have hs5 := Lib.hid (hs4.later hbl5)
  have q5 := q4.trans (hbl5.mono q4.size)
  have cv := run_string_of_bs (P := Tryd.prog) hown5.bs tB tU tS
  clear hs4 hbl5 q4 hown5
  go_wp2_with fail
  refine (free_any w.heap.size _ 0 w5 hs5.out (by omega)).mono ?_
  rintro e w6 ⟨rfl, hs6, hg6, _⟩
  rw [ex_f0] at hs6 ⊢
  have q6 := q5.trans (grown_below hg6 (Nat.le_refl _) q5.size)
  clear hs5 hg6 q5 cv
  go_wp2_with fail
  refine (take_any w.heap.size _ w6 (HB.out.later q6) hs6).mono ?_
  rintro e w7 ⟨rfl, hs7, hg7, _⟩
  rw [ex_t2] at hs7 ⊢
  have q7 := q6.trans (grown_below hg7 (Nat.le_refl _) q6.size)
  have HS7 := Lib.hid hs7
  clear hs6 hg7 q6 hs7
  go_wp2_with fail
  refine (left_any w.heap.size _ w7 HS7.out).mono ?_
  rintro e w8 ⟨rfl, rfl⟩
  rw [show (([true, true, false, true, false] : List Bool).length - [true, true, false, true, false].count true) = 2 from by decide]
  go_wp2_with fail
  refine (has_any w.heap.size _ 3 w7 HS7.out (by omega)).mono ?_
  rintro e w8 ⟨rfl, rfl⟩
  rw [show hasB [true, true, false, true, false] 3 = true from by decide]
  go_wp2_with fail
  go_ret
  exact ⟨rfl, q7⟩

set_option maxHeartbeats 1000000 in
theorem do_any (g : Nat) (l : List Bool) (k p : Int) (w : World) (hT : TabOk w) (hs : Sp w g l) (hk : -9223372036854775808 ≤ k ∧ k ≤ 9223372036854775807) (hp : -9223372036854775808 ≤ p ∧ p ≤ 9223372036854775807) :
    Calls Tryd.prog 10 #[.pointer (some ⟨g, 0, none⟩), .agg #[.int .i64 k, .int .i64 p]] w fun e w' => e = .returned (.tuple #[.int .i64 ((doB l k p).2.1 : Int), .int .i64 ((doB l k p).2.2 : Int)]) ∧ Sp w' g (doB l k p).1 ∧ w.grownBy w' (some g) := by
  have HA := Lib.hid (hs.later ((Below.refl _ _).alloc (Nat.le_refl _) (.cells #[.int .i64 k, .int .i64 p] 32)))
  have HT := Lib.hid (hT.later ((Below.refl _ _).alloc (Nat.le_refl _) (.cells #[.int .i64 k, .int .i64 p] 32)))
  have HG := Lib.hid (World.grownBy_alloc w (.cells #[.int .i64 k, .int .i64 p] 32) (some g))
  clear hs hT
  by_cases h0 : k = 0
  · subst h0
    have HD : Hid (doB l 0 p = takeB l) := by unfold doB; rw [if_pos rfl]; rfl
    go_enter Tryd.func10, Tryd.ntmps10
    go_wp2_with fail
    refine (take_any g l _ HT.out HA.out).mono ?_
    rintro e w2 ⟨rfl, hs2, hg2, _⟩
    go_wp2_with fail
    go_ret2
    rw [HD.out]
    exact ⟨rfl, hs2, HG.out.trans hg2⟩
  · have t0 : (k == 0) = false := by rw [beq_eq_false_iff_ne]; exact h0
    by_cases h1 : k = 1
    · subst h1
      have HD : Hid (doB l 1 p = ((claimB l p).1, 0, (claimB l p).2)) := by unfold doB; rw [if_neg (by decide), if_pos rfl]; rfl
      clear h0 t0
      go_enter Tryd.func10, Tryd.ntmps10
      go_wp2_with fail
      refine (claim_any g l p _ HA.out hp).mono ?_
      rintro e w2 ⟨rfl, hs2, hg2, _⟩
      go_wp2_with fail
      go_ret2
      rw [HD.out]
      exact ⟨rfl, hs2, HG.out.trans hg2⟩
    · have t1 : (k == 1) = false := by rw [beq_eq_false_iff_ne]; exact h1
      by_cases h2 : k = 2
      · subst h2
        have HD : Hid (doB l 2 p = ((freeB l p).1, 0, (freeB l p).2)) := by unfold doB; rw [if_neg (by decide), if_neg (by decide), if_pos rfl]; rfl
        clear h0 t0 h1 t1
        go_enter Tryd.func10, Tryd.ntmps10
        go_wp2_with fail
        refine (free_any g l p _ HA.out hp).mono ?_
        rintro e w2 ⟨rfl, hs2, hg2, _⟩
        go_wp2_with fail
        go_ret2
        rw [HD.out]
        exact ⟨rfl, hs2, HG.out.trans hg2⟩
      · have t2 : (k == 2) = false := by rw [beq_eq_false_iff_ne]; exact h2
        have HD : Hid (doB l k p = (l, 0, 0)) := by unfold doB; rw [if_neg h0, if_neg h1, if_neg h2]; rfl
        clear h0 h1 h2
        go_enter Tryd.func10, Tryd.ntmps10
        go_wp2_with fail
        go_ret2
        rw [HD.out]
        exact ⟨rfl, HA.out, HG.out⟩

/-- A slice of acts reads as a list; its block is one of S. -/
def Acts (S : Nat → Prop) (w : World) (v : Value) (acts : List (Int × Int)) : Prop :=
  ∃ A c, v = .slice A acts.length c ∧ acts.length ≤ 9223372036854775807 ∧ (∀ x ∈ acts, (-9223372036854775808 ≤ x.1 ∧ x.1 ≤ 9223372036854775807) ∧ -9223372036854775808 ≤ x.2 ∧ x.2 ≤ 9223372036854775807) ∧
    (0 < acts.length → ∃ b o, A = some ⟨b, o, none⟩ ∧ S b ∧ ∀ i (h : i < acts.length), w.cell? ⟨b, o + i * 2, none⟩ = some (.int .i64 acts[i].1) ∧ w.cell? ⟨b, o + i * 2 + 1, none⟩ = some (.int .i64 acts[i].2))
end Go.Proofs.YtlhdeclimodfdaaDoor
