/- The statements of layer 4: KeysPuts, KeysPrefix, KeysBack. -/
import Derived.Test.YtdmighkfmbcbmaaDoorKeyD
namespace Go.Proofs.YtdmighkfmbcbmaaDoor
open Go Go.RowKit
set_option linter.unusedVariables false

set_option maxHeartbeats 2000000 in
set_option maxRecDepth 100000 in
theorem law_KeysPuts (l : List UInt8) (t : Nat) (w : World) (hb : BitsOk w) (hl : l.length ≤ 9223372036854775807) (ht : t < U64) :
    Calls Tryd.prog 6 #[.string (st l), .int .u64 t] w fun e w' => e = .returned (.bool true) ∧ Below w.heap.size w w' := by
  have HB := Lib.hid hb
  clear hb
  by_cases hlen : 1000 < l.length
  · have t1 : (1000 : Int) < (l.length : Int) := by omega
    go_enter Tryd.func6, Tryd.ntmps6
    go_wp2_with fail
    refine (awake4_any w HB.out).mono ?_
    rintro e w1 ⟨rfl, hbl1⟩
    go_wp2_with fail
    go_ret
    exact ⟨rfl, hbl1⟩
  · have t1 : ¬ (1000 : Int) < (l.length : Int) := by omega
    by_cases h64 : 64 < l.length
    · go_enter Tryd.func6, Tryd.ntmps6
      go_wp2_with fail
      refine (kput_long l t w h64 hl).mono ?_
      rintro e w1 ⟨rfl, rfl⟩
      go_wp2_with fail
      refine (refKPut_long l t w h64 hl).mono ?_
      rintro e w1 ⟨rfl, rfl⟩
      go_wp2_with fail
      refine (kfirst_long l w h64 hl).mono ?_
      rintro e w1 ⟨rfl, rfl⟩
      go_wp2_with fail
      refine (refKPut_long l 18446744073709551615 w h64 hl).mono ?_
      rintro e w1 ⟨rfl, rfl⟩
      go_wp2_with fail
      refine (awake4_any w HB.out).mono ?_
      rintro e w1 ⟨rfl, q1⟩
      have cv := run_string_of_bs (P := Tryd.prog) (Bs.nilv (fun _ => False) w1) tB tU tS
      go_wp2_with fail
      go_ret
      exact ⟨rfl, q1⟩
    · have h64' : l.length ≤ 64 := by omega
      go_enter Tryd.func6, Tryd.ntmps6
      go_wp2_with fail
      refine (kput_ok l t w HB.out ht h64').mono ?_
      rintro e w1 ⟨A1, k1, c1, rfl, hown1, q1⟩
      have HO1 := Lib.hid hown1
      clear hown1
      go_wp2_with fail
      refine (refKPut_ok l t w1 ht h64').mono ?_
      rintro e w2 ⟨rfl, hbl2⟩
      have HO2 := Lib.hid (HO1.out.later hbl2)
      have q2 := below_chain q1 hbl2
      clear HO1 hbl2 q1
      go_wp2_with fail
      refine (kfirst_ok l w2 (HB.out.later q2) h64').mono ?_
      rintro e w3 ⟨A3, k3, c3, rfl, hown3, hbl3⟩
      have HF3 := Lib.hid hown3
      have HO3 := Lib.hid (HO2.out.later hbl3)
      have q3 := below_chain q2 hbl3
      clear HO2 hbl3 q2 hown3
      go_wp2_with fail
      refine (refKPut_ok l 18446744073709551615 w3 (by unfold U64; omega) h64').mono ?_
      rintro e w4 ⟨rfl, hbl4⟩
      rw [show keyPut l 18446744073709551615 = firstB l from rfl]
      have HO4 := Lib.hid (HO3.out.later hbl4)
      have HF4 := Lib.hid (HF3.out.later hbl4)
      have q4 := below_chain q3 hbl4
      clear HO3 HF3 hbl4 q3
      go_wp2_with fail
      refine (awake4_any w4 (HB.out.later q4)).mono ?_
      rintro e w5 ⟨rfl, hbl5⟩
      have cv1 := run_string_of_bs (P := Tryd.prog) (HO4.out.later hbl5).bs tB tU tS
      have cv2 := run_string_of_bs (P := Tryd.prog) (HF4.out.later hbl5).bs tB tU tS
      have q5 := below_chain q4 hbl5
      clear HO4 HF4 hbl5 q4
      generalize keyPut l t = kb at *
      generalize firstB l = fb at *
      go_wp2_with fail
      go_ret
      exact ⟨rfl, q5⟩

theorem len_of_endB {m e : List UInt8} (h : endB m = some e) : e.length ≤ m.length := by
  rcases end_cases m with ⟨_, he, _⟩ | ⟨p, b, hb, ht, he, k, hk⟩
  · rw [he] at h; cases h
  · rw [he] at h
    cases h
    rw [hk]
    simp
theorem end_spec (k m : List UInt8) : match endB m with
    | some e => Op.bytesLess m e = true ∧ (!Op.bytesLess k m && Op.bytesLess k e) = m.isPrefixOf k
    | none => (!Op.bytesLess k m) = m.isPrefixOf k := by
  rcases end_cases m with ⟨_, he, j, hk⟩ | ⟨p, b, hb, ht, he, j, hk⟩
  · rw [he, hk]
    exact rep_pre j k
  · rw [he, hk]
    have hbx : b.toNat ≤ 254 := by
      have := b.toNat_lt
      have : b.toNat ≠ 255 := fun h => hb (UInt8.toNat_inj.1 h)
      omega
    exact ⟨end_more j b hbx p, range_pre j b hbx p k⟩

set_option maxHeartbeats 2000000 in
set_option maxRecDepth 100000 in
theorem law_KeysPrefix (l m : List UInt8) (w : World) (hb : BitsOk w) (hl : l.length ≤ 9223372036854775807) (hm : m.length ≤ 9223372036854775807) :
    Calls Tryd.prog 7 #[.string (st l), .string (st m)] w fun e w' => e = .returned (.bool true) ∧ Below w.heap.size w w' := by
  have HB := Lib.hid hb
  clear hb
  by_cases hlen : 1000 < l.length ∨ 1000 < m.length
  · have hcase : (1000 : Int) < (l.length : Int) ∨ (¬ (1000 : Int) < (l.length : Int) ∧ (1000 : Int) < (m.length : Int)) := by omega
    clear hlen
    rcases hcase with t1 | ⟨t1, t2⟩
    all_goals
      go_enter Tryd.func7, Tryd.ntmps7
      go_wp2_with fail
      refine (awake4_any w HB.out).mono ?_
      rintro e w1 ⟨rfl, hbl1⟩
      go_wp2_with fail
      go_ret
      exact ⟨rfl, hbl1⟩
  · have t1 : ¬ (1000 : Int) < (l.length : Int) := by omega
    have t2 : ¬ (1000 : Int) < (m.length : Int) := by omega
    have hm' : m.length ≤ 1099511627776 := by omega
    have HS := Lib.hid (end_spec l m)
    go_enter Tryd.func7, Tryd.ntmps7
    go_wp2_with fail
    refine (end_any m w hm').mono ?_
    rintro e w1 ⟨rfl, q1⟩
    cases he : endB m with
    | none =>
      have HS2 := HS.out
      rw [he] at HS2
      simp only at HS2
      have HS3 := Lib.hid HS2
      rw [endV]
      clear HS HS2 he
      go_wp2_with fail
      refine (begins_any l m w1 hl hm).mono ?_
      rintro e w2 ⟨rfl, rfl⟩
      rw [← HS3.out]
      go_wp2_with fail
      refine (awake4_any w1 (HB.out.later q1)).mono ?_
      rintro e w2 ⟨rfl, hbl2⟩
      have q2 := below_chain q1 hbl2
      clear hbl2 q1
      go_wp2_with fail
      refine (in_any l m [] true w2).mono ?_
      rintro e w3 ⟨rfl, rfl⟩
      cases hx : Op.bytesLess l m
      all_goals
        go_wp2_with fail
        go_ret
        exact ⟨rfl, q2⟩
    | some en =>
      have HS2 := HS.out
      rw [he] at HS2
      simp only at HS2
      obtain ⟨hlt, hpre⟩ := HS2
      have HS3 := Lib.hid hpre
      obtain ⟨x1, x2, x3⟩ := less_asym hlt
      rw [endV]
      clear HS he hpre hlt
      go_wp2_with fail
      refine (begins_any l m w1 hl hm).mono ?_
      rintro e w2 ⟨rfl, rfl⟩
      rw [← HS3.out]
      go_wp2_with fail
      refine (awake4_any w1 (HB.out.later q1)).mono ?_
      rintro e w2 ⟨rfl, hbl2⟩
      have q2 := below_chain q1 hbl2
      clear hbl2 q1
      go_wp2_with fail
      refine (in_any l m en false w2).mono ?_
      rintro e w3 ⟨rfl, rfl⟩
      cases hx : Op.bytesLess l m <;> cases hy : Op.bytesLess l en
      all_goals
        go_wp2_with fail
        go_ret
        exact ⟨rfl, q2⟩
end Go.Proofs.YtdmighkfmbcbmaaDoor
