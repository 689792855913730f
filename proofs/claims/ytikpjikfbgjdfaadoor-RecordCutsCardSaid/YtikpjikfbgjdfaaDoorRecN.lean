/- The statements of layer 7: RecordBack. -/
import Derived.Test.YtikpjikfbgjdfaaDoorRecM
namespace Go.Proofs.YtikpjikfbgjdfaaDoor
open Go Go.RowKit
set_option linter.unusedVariables false

set_option maxHeartbeats 1000000 in
set_option maxRecDepth 100000 in
theorem law_RecordBack (q : Nat) (t s : List UInt8) (w : World) (hb : BitsOk w) (hq : q < U64) (ht : t.length ≤ 9223372036854775807) (hs : s.length ≤ 9223372036854775807) :
    Calls Tryd.prog 6 #[.agg #[.int .u64 (q : Int), .string (st t)], .string (st s)] w fun e w' => e = .returned (.bool true) ∧ Below w.heap.size w w' := by
  have hb0 := Blk.new w 24 #[.int .u64 (q : Int), .string (st t)]
  have q0 : Below w.heap.size w (w.alloc (.cells #[.int .u64 (q : Int), .string (st t)] 24)) := (Below.refl _ _).alloc (Nat.le_refl _) _
  have HB := Lib.hid (hb.later q0)
  have d0 : (w.alloc (.cells #[.int .u64 (q : Int), .string (st t)] 24)).cell? ⟨w.heap.size, 0, none⟩ = some (.int .u64 (q : Int)) := hb0.cell 0
  have d1 : (w.alloc (.cells #[.int .u64 (q : Int), .string (st t)] 24)).cell? ⟨w.heap.size, 1, none⟩ = some (.string (st t)) := hb0.cell 1
  by_cases h4 : 2000 < t.length ∨ 500 < s.length
  · rcases (Decidable.em (2000 < t.length)) with h5 | h5
    case' inl => have h6 := h5
    case' inr => have h6 : 500 < s.length := h4.resolve_left h5
    all_goals
      clear h4 hb
      go_enter Tryd.func6, Tryd.ntmps6
      go_wp2_with fail
      refine (awake7_any _ HB.out).mono ?_
      rintro e w1 ⟨rfl, hbl1⟩
      go_wp2_with fail
      go_ret
      exact ⟨rfl, q0.trans (hbl1.mono q0.size)⟩
  · have h5 : ¬ 2000 < t.length := fun h => h4 (.inl h)
    have h6 : ¬ 500 < s.length := fun h => h4 (.inr h)
    clear h4
    have HB0 := Lib.hid hb
    clear hb
    go_enter Tryd.func6, Tryd.ntmps6
    go_wp2_with fail
    refine (rput_any q t _ hq HB.out (by omega)).mono ?_
    rintro e w1 ⟨hok, _, hbl1⟩
    obtain ⟨A1, k1, c1, rfl, hown1⟩ := hok (by omega)
    have hb1 := hb0.later hbl1
    have q1 := q0.trans (hbl1.mono q0.size)
    have hs1 := q1.size
    have HL := Lib.hid (recB_len q t)
    have hfl := recF_len hq (show t.length ≤ 32768 by omega)
    have hrl : (recB q t).length ≤ 40000 := by rw [HL.out]; omega
    have HO1 := Lib.hid hown1
    have HG := Lib.hid (recGet_put hq (show t.length ≤ 32768 by omega) s)
    have HSZ0 : Hid (8 + (recF q t).length = (recB q t).length) := by rw [Hid, HL.out]; omega
    obtain rfl := hown1.len
    have hma := (Ob.made 5 w1 w1.heap.size (Nat.le_refl _) (g := w1.heap.size) rfl)
    clear hok hown1
    go_wp2_with (first
      | (at_builtin; refine wpList_append_bs _ rfl (.tmp 26) (.tmp 27) elemU8 rfl hma (Sl.alloc1 HO1.out.bs _) rfl rfl (by simp; omega) (by simp) ?_; intro A2 k2 c2 w2 hown2 hg2 hat2; have hbw2 := below_grown_own ((Below.refl w1.heap.size w1).alloc (Nat.le_refl _) _) hma hg2 (by simp))
      | (at_builtin; refine wpList_append_st _ rfl (.tmp 28) (.tmp 29) elemU8 tS rfl hown2 rfl rfl (by simp; omega) hbw2.size ?_; intro A3 k3 c3 w3 hown3 hg3; have hbw3 := hbw2.grown hg3 hbw2.size (fun k hk => (hown2.lt k hk).1)))
    rw [List.nil_append] at hown3
    refine (rget_any _ _ (recB q t ++ s) w3 (by rw [List.length_append]; omega) hown3.bs).mono ?_
    rintro e w4 ⟨rfl, hbl4⟩
    rw [HG.out]
    unfold rgetV recV
    have q3 := q1.trans (hbw3.mono hs1)
    have q4 := q3.trans (hbl4.mono q3.size)
    have hb4 := (hb1.later hbw3).later hbl4
    have hb5 := hb4.alloc (.cells #[.int .u64 (q : Int), .string (st t)] 24)
    have hb6 := Blk.new w4 24 #[.int .u64 (q : Int), .string (st t)]
    have q5 := q4.alloc q4.size (.cells #[.int .u64 (q : Int), .string (st t)] 24)
    have HB5 := Lib.hid (HB0.out.later q5)
    clear hbl4 hb4 hbw3 hbw2 hown3 hown2 hg2 hg3 hma
    go_wp2_with fail
    refine (awake7_any _ HB5.out).mono ?_
    rintro e w6 ⟨rfl, hbl6⟩
    have q6 := q5.trans (hbl6.mono q5.size)
    have hb7 := hb5.later hbl6
    have hb8 := hb6.later hbl6
    have e0 : w6.cell? ⟨w.heap.size, 0, none⟩ = some (.int .u64 (q : Int)) := hb7.cell 0
    have e1 : w6.cell? ⟨w.heap.size, 1, none⟩ = some (.string (st t)) := hb7.cell 1
    have e2 : w6.cell? ⟨w4.heap.size, 0, none⟩ = some (.int .u64 (q : Int)) := hb8.cell 0
    have e3 : w6.cell? ⟨w4.heap.size, 1, none⟩ = some (.string (st t)) := hb8.cell 1
    have hsz := rsize_any q t w6 hq (by omega)
    rw [HSZ0.out] at hsz
    have HSZ := Lib.hid hsz
    clear hsz hbl6
    generalize recB q t = rb at *
    go_wp2_with fail
    refine HSZ.out.mono ?_
    rintro e w7 ⟨rfl, hbl7⟩
    go_wp2_with fail
    go_ret
    exact ⟨rfl, q6.trans (hbl7.mono q6.size)⟩
end Go.Proofs.YtikpjikfbgjdfaaDoor
