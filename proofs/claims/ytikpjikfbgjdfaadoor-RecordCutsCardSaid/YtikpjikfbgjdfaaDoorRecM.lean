/- The statements of layer 7: RecordPuts, RecordGets, RecordScans. -/
import Derived.Test.YtikpjikfbgjdfaaDoorRecL
namespace Go.Proofs.YtikpjikfbgjdfaaDoor
open Go Go.RowKit
set_option linter.unusedVariables false

set_option maxHeartbeats 1000000 in
set_option maxRecDepth 100000 in
theorem law_RecordPuts (q : Nat) (t : List UInt8) (w : World) (hb : BitsOk w) (hq : q < U64) (ht : t.length ≤ 9223372036854775807) :
    Calls Tryd.prog 3 #[.agg #[.int .u64 (q : Int), .string (st t)]] w fun e w' => e = .returned (.bool true) ∧ Below w.heap.size w w' := by
  have hb0 := Blk.new w 24 #[.int .u64 (q : Int), .string (st t)]
  have q0 : Below w.heap.size w (w.alloc (.cells #[.int .u64 (q : Int), .string (st t)] 24)) := (Below.refl _ _).alloc (Nat.le_refl _) _
  have HB := Lib.hid (hb.later q0)
  have d0 : (w.alloc (.cells #[.int .u64 (q : Int), .string (st t)] 24)).cell? ⟨w.heap.size, 0, none⟩ = some (.int .u64 (q : Int)) := hb0.cell 0
  have d1 : (w.alloc (.cells #[.int .u64 (q : Int), .string (st t)] 24)).cell? ⟨w.heap.size, 1, none⟩ = some (.string (st t)) := hb0.cell 1
  clear hb
  by_cases h4 : 40000 < t.length
  · go_enter Tryd.func3, Tryd.ntmps3
    go_wp2_with fail
    refine (awake7_any _ HB.out).mono ?_
    rintro e w1 ⟨rfl, hbl1⟩
    go_wp2_with fail
    go_ret
    exact ⟨rfl, q0.trans (hbl1.mono q0.size)⟩
  · go_enter Tryd.func3, Tryd.ntmps3
    go_wp2_with fail
    refine (rput_any q t _ hq HB.out (by omega)).mono ?_
    rintro e w1 ⟨hok, hbad, hbl1⟩
    have hb1 := hb0.later hbl1
    have q1 := q0.trans (hbl1.mono q0.size)
    have hs1 := q1.size
    have HB1 := Lib.hid (HB.out.later hbl1)
    have e0 : w1.cell? ⟨w.heap.size, 0, none⟩ = some (.int .u64 (q : Int)) := hb1.cell 0
    have e1 : w1.cell? ⟨w.heap.size, 1, none⟩ = some (.string (st t)) := hb1.cell 1
    by_cases hl : 32768 < t.length
    · obtain rfl := hbad hl
      have HV : Hid (refRPutV q t = .tuple #[.string (st []), .int .i64 70]) := by unfold refRPutV; rw [Hid, if_pos hl]
      clear hok hbad hbl1
      go_wp2_with fail
      refine (refRPut_any q t w1 hq (by omega)).mono ?_
      rintro e w2 ⟨rfl, hbl2⟩
      rw [HV.out]
      have q2 := q1.trans (hbl2.mono hs1)
      have hs2 := q2.size
      have HB2 := Lib.hid (HB1.out.later hbl2)
      clear hbl2
      go_wp2_with fail
      refine (awake7_any _ HB2.out).mono ?_
      rintro e w3 ⟨rfl, hbl3⟩
      have cv := run_string_of_bs (P := Tryd.prog) (Bs.nilv (fun _ => True) w3) tB tU tS
      go_wp2_with fail
      go_ret
      exact ⟨rfl, q2.trans (hbl3.mono hs2)⟩
    · obtain ⟨A1, k1, c1, rfl, hown1⟩ := hok (by omega)
      have HV : Hid (refRPutV q t = .tuple #[.string (st (recB q t)), .int .i64 0]) := by unfold refRPutV; rw [Hid, if_neg hl]
      have HL := Lib.hid (recB_len q t)
      have hfl := recF_len hq (show t.length ≤ 32768 by omega)
      have HO1 := Lib.hid hown1
      clear hok hbad hown1
      go_wp2_with fail
      refine (refRPut_any q t w1 hq (by omega)).mono ?_
      rintro e w2 ⟨rfl, hbl2⟩
      rw [HV.out]
      have q2 := q1.trans (hbl2.mono hs1)
      have hs2 := q2.size
      have HB2 := Lib.hid (HB1.out.later hbl2)
      have hb2 := hb1.later hbl2
      have HO2 := Lib.hid (HO1.out.later hbl2)
      clear hbl2 hbl1
      go_wp2_with fail
      refine (awake7_any _ HB2.out).mono ?_
      rintro e w3 ⟨rfl, hbl3⟩
      have q3 := q2.trans (hbl3.mono hs2)
      have hs3 := q3.size
      have hb3 := hb2.later hbl3
      have cv := run_string_of_bs (P := Tryd.prog) (HO2.out.later hbl3).bs tB tU tS
      have g0 : w3.cell? ⟨w.heap.size, 0, none⟩ = some (.int .u64 (q : Int)) := hb3.cell 0
      have g1 : w3.cell? ⟨w.heap.size, 1, none⟩ = some (.string (st t)) := hb3.cell 1
      have hsz := rsize_any q t w3 hq (by omega)
      rw [show 8 + (recF q t).length = (recB q t).length by rw [HL.out]; omega] at hsz
      have HSZ := Lib.hid hsz
      have hrl : (recB q t).length ≤ 40000 := by rw [HL.out]; omega
      clear hsz hbl3
      generalize recB q t = rb at *
      go_wp2_with fail
      refine HSZ.out.mono ?_
      rintro e w4 ⟨rfl, hbl4⟩
      go_wp2_with fail
      go_ret
      exact ⟨rfl, q3.trans (hbl4.mono hs3)⟩

set_option maxHeartbeats 1000000 in
set_option maxRecDepth 100000 in
theorem law_RecordGets (l : List UInt8) (w : World) (hb : BitsOk w) (hl : l.length ≤ 9223372036854775807) :
    Calls Tryd.prog 4 #[.string (st l)] w fun e w' => e = .returned (.bool true) ∧ Below w.heap.size w w' := by
  have HB := Lib.hid hb
  clear hb
  by_cases h4 : 1000 < l.length
  · go_enter Tryd.func4, Tryd.ntmps4
    go_wp2_with fail
    refine (awake7_any _ HB.out).mono ?_
    rintro e w1 ⟨rfl, hbl1⟩
    go_wp2_with fail
    go_ret
    exact ⟨rfl, hbl1⟩
  · have hm : l.length ≤ maxLen := by simp only [maxLen]; omega
    go_enter Tryd.func4, Tryd.ntmps4
    go_wp2_with (refine wpList_bytes_of_st _ rfl (.tmp 14) rfl tS tB tU hm rfl ?_; intro A1 c1 w1 hbs1 hbl1 hsz1)
    clear hm
    refine (rget_any _ _ l w1 (by omega) hbs1).mono ?_
    rintro e w2 ⟨rfl, hbl2⟩
    have q2 : Below w.heap.size w w2 := hbl1.trans (hbl2.mono hbl1.size)
    have HG := Lib.hid (refRGet_any l)
    obtain ⟨r, n, ok, hr⟩ : ∃ (r : Nat × List UInt8) (n : Nat) (ok : Bool), rgetV (recGet l) = .tuple #[recV r, .int .i64 (n : Int), .bool ok] := by
      cases recGet l with
      | none => exact ⟨(0, []), 0, false, rfl⟩
      | some x => exact ⟨x.1, x.2, true, rfl⟩
    rw [hr] at HG ⊢
    obtain ⟨q, t⟩ := r
    unfold recV at *
    simp only at HG ⊢
    have hb3 := Blk.new w2 24 #[.int .u64 (q : Int), .string (st t)]
    have q3 := q2.alloc q2.size (.cells #[.int .u64 (q : Int), .string (st t)] 24)
    have hs3 := q3.size
    have HB3 := Lib.hid (HB.out.later q3)
    clear hbs1 hbl1 hbl2 hsz1 hr
    go_wp2_with fail
    refine (HG.out _ (by omega)).mono ?_
    rintro e w4 ⟨rfl, hbl4⟩
    have hb4 := hb3.later hbl4
    have q4 := q3.trans (hbl4.mono hs3)
    have hb5 := hb4.alloc (.cells #[.int .u64 (q : Int), .string (st t)] 24)
    have hb6 := Blk.new w4 24 #[.int .u64 (q : Int), .string (st t)]
    have q5 := q4.alloc q4.size (.cells #[.int .u64 (q : Int), .string (st t)] 24)
    have HB5 := Lib.hid (HB.out.later q5)
    clear hbl4 hb4
    go_wp2_with fail
    refine (awake7_any _ HB5.out).mono ?_
    rintro e w6 ⟨rfl, hbl6⟩
    have q6 := q5.trans (hbl6.mono q5.size)
    have hb7 := hb5.later hbl6
    have hb8 := hb6.later hbl6
    have e0 : w6.cell? ⟨w2.heap.size, 0, none⟩ = some (.int .u64 (q : Int)) := hb7.cell 0
    have e1 : w6.cell? ⟨w2.heap.size, 1, none⟩ = some (.string (st t)) := hb7.cell 1
    have e2 : w6.cell? ⟨w4.heap.size, 0, none⟩ = some (.int .u64 (q : Int)) := hb8.cell 0
    have e3 : w6.cell? ⟨w4.heap.size, 1, none⟩ = some (.string (st t)) := hb8.cell 1
    clear hbl6
    cases ok
    all_goals
      go_wp2_with fail
      go_ret
      exact ⟨rfl, q6⟩

set_option maxHeartbeats 1000000 in
set_option maxRecDepth 100000 in
theorem law_RecordScans (l : List UInt8) (first : Nat) (w : World) (hb : BitsOk w) (hl : l.length ≤ 9223372036854775807) (hf : first < U64) :
    Calls Tryd.prog 5 #[.string (st l), .int .u64 (first : Int)] w fun e w' => e = .returned (.bool true) ∧ Below w.heap.size w w' := by
  have HB := Lib.hid hb
  clear hb
  by_cases h4 : 1000 < l.length
  · go_enter Tryd.func5, Tryd.ntmps5
    go_wp2_with fail
    refine (awake7_any _ HB.out).mono ?_
    rintro e w1 ⟨rfl, hbl1⟩
    go_wp2_with fail
    go_ret
    exact ⟨rfl, hbl1⟩
  · have hm : l.length ≤ maxLen := by simp only [maxLen]; omega
    go_enter Tryd.func5, Tryd.ntmps5
    go_wp2_with (refine wpList_bytes_of_st _ rfl (.tmp 14) rfl tS tB tU hm rfl ?_; intro A1 c1 w1 hbs1 hbl1 hsz1)
    clear hm
    refine (rscan_any _ _ l first w1 (by omega) hf hbs1).mono ?_
    rintro e w2 ⟨A2, k2, c2, rfl, hro2, hbl2⟩
    have q2 : Below w.heap.size w w2 := hbl1.trans (hbl2.mono hbl1.size)
    have HR2 := Lib.hid hro2
    have HS := Lib.hid (fun w => refRScan_any l first w (by omega) hf)
    generalize recScan l.length l first = X at *
    clear hbs1 hbl1 hbl2 hro2 hsz1
    go_wp2_with fail
    refine (HS.out _).mono ?_
    rintro e w3 ⟨A3, k3, c3, rfl, hro3, hbl3⟩
    have q3 := q2.trans (hbl3.mono q2.size)
    have HR3 := Lib.hid hro3
    have HR4 := Lib.hid (HR2.out.later hbl3)
    have HB3 := Lib.hid (HB.out.later q3)
    clear hbl3 hro3
    go_wp2_with fail
    refine (awake7_any _ HB3.out).mono ?_
    rintro e w4 ⟨rfl, hbl4⟩
    have q4 := q3.trans (hbl4.mono q3.size)
    have HR5 := Lib.hid (HR3.out.later hbl4)
    have HR6 := Lib.hid (HR4.out.later hbl4)
    clear hbl4
    go_wp2_with fail
    refine (rsame_any _ _ _ _ X.1 X.1 w4 (Sl.of_own (by omega) HR6.out) (Sl.of_own (by omega) HR5.out)).mono ?_
    rintro e w5 ⟨rfl, n, rfl⟩
    rw [show decide (X.1 = X.1) = true by simp]
    go_wp2_with fail
    go_ret
    exact ⟨rfl, below_drewN q4 _⟩
end Go.Proofs.YtikpjikfbgjdfaaDoor
