/- The statements of layer 4: the chapter's examples (awake); KeysGets, KeysIn, KeysNext. -/
import Derived.Test.YtdmighkfmbcbmaaDoorKeyC
import Derived.Test.YtdmighkfmbcbmaaDoorKeyQ
namespace Go.Proofs.YtdmighkfmbcbmaaDoor
open Go Go.RowKit
set_option linter.unusedVariables false

theorem ex_k1 : keyPut [97] 1 = [97, 0, 1, 255, 255, 255, 255, 255, 255, 255, 254] := by decide +kernel
theorem ex_k2 : keyPut [0] 18446744073709551615 = [0, 255, 0, 1, 0, 0, 0, 0, 0, 0, 0, 0] := by decide +kernel
theorem ex_g1 : keyGet [97, 0, 1, 255, 255, 255, 255, 255, 255, 255, 254] = some ([97], 18446744073709551614) := by rw [← ex_k1, keyGet_put _ _ (by simp) (by unfold U64; omega)]
theorem ex_g2 : keyGet [0, 2] = none := by unfold keyGet; rw [if_pos (by simp)]
theorem ex_e1 : endB [97, 255] = some [98] := by decide +kernel
theorem ex_e2 : endB [255] = none := by decide +kernel

set_option maxHeartbeats 2000000 in
set_option maxRecDepth 100000 in
theorem awake4_any (w : World) (hb : BitsOk w) :
    Calls Tryd.prog 11 #[] w fun e w' => e = .returned (.bool true) ∧ Below w.heap.size w w' := by
  have HB := Lib.hid hb
  clear hb
  have s1 : (⟨#[97]⟩ : ByteArray) = st [97] := rfl
  have s2 : (⟨#[0]⟩ : ByteArray) = st [0] := rfl
  have s3 : (⟨#[97, 255]⟩ : ByteArray) = st [97, 255] := rfl
  have s4 : (⟨#[255]⟩ : ByteArray) = st [255] := rfl
  have s5 : (⟨#[98]⟩ : ByteArray) = st [98] := rfl
  have s6 : (⟨#[97, 0]⟩ : ByteArray) = st [97, 0] := rfl
  have s7 : (⟨#[97, 0, 1, 255, 255, 255, 255, 255, 255, 255, 254]⟩ : ByteArray) = st [97, 0, 1, 255, 255, 255, 255, 255, 255, 255, 254] := rfl
  have s8 : (⟨#[0, 255, 0, 1, 0, 0, 0, 0, 0, 0, 0, 0]⟩ : ByteArray) = st [0, 255, 0, 1, 0, 0, 0, 0, 0, 0, 0, 0] := rfl
  go_enter Tryd.func11, Tryd.ntmps11
  go_wp2_with fail
  refine (kput_ok [97] 1 w HB.out (by unfold U64; omega) (by simp)).mono ?_
  rintro e w1 ⟨A1, k1, c1, rfl, hown1, q1⟩
  rw [ex_k1] at hown1
  go_wp2_with fail
  refine (kput_ok [0] 18446744073709551615 w1 (HB.out.later q1) (by unfold U64; omega) (by simp)).mono ?_
  rintro e w2 ⟨A2, k2, c2, rfl, hown2, hbl2⟩
  rw [ex_k2] at hown2
  have HO1 := Lib.hid (hown1.later hbl2)
  have HO2 := Lib.hid hown2
  have q2 := below_chain q1 hbl2
  clear hown1 hown2 hbl2 q1
  go_wp2_with fail
  refine (kget_any _ _ [0, 2] _ (by simp) (Bs.lit w2 _ [0, 2] (by simp [maxLen]) (0, 0) rfl)).mono ?_
  rintro e w3 ⟨rfl, hbl3⟩
  rw [ex_g2, kgetV]
  have p3 : Below w2.heap.size w2 w3 := ((Below.refl _ _).alloc (Nat.le_refl _) _).trans (hbl3.mono (by simp))
  have HO1' := Lib.hid (HO1.out.later p3)
  have HO2' := Lib.hid (HO2.out.later p3)
  have q3 := below_chain q2 p3
  clear hbl3 p3 HO1 HO2 q2
  go_wp2_with fail
  refine (kget_any _ _ _ w3 (by simp) HO1'.out.bs).mono ?_
  rintro e w4 ⟨rfl, hbl4⟩
  rw [ex_g1, kgetV]
  have HO1 := Lib.hid (HO1'.out.later hbl4)
  have HO2 := Lib.hid (HO2'.out.later hbl4)
  have q4 := below_chain q3 hbl4
  clear hbl4 HO1' HO2' q3
  go_wp2_with fail
  refine (end_any [97, 255] w4 (by simp)).mono ?_
  rintro e w5 ⟨rfl, hbl5⟩
  rw [ex_e1, endV]
  have HO1' := Lib.hid (HO1.out.later hbl5)
  have HO2' := Lib.hid (HO2.out.later hbl5)
  have q5 := below_chain q4 hbl5
  clear hbl5 HO1 HO2 q4
  go_wp2_with fail
  refine (end_any [255] w5 (by simp)).mono ?_
  rintro e w6 ⟨rfl, hbl6⟩
  rw [ex_e2, endV]
  have cv1 := run_string_of_bs (P := Tryd.prog) (HO1'.out.later hbl6).bs tB tU tS
  have cv2 := run_string_of_bs (P := Tryd.prog) (HO2'.out.later hbl6).bs tB tU tS
  have q6 := below_chain q5 hbl6
  clear hbl6 HO1' HO2' q5
  go_wp2_with fail
  refine (knext_any [97] w6 (by simp)).mono ?_
  rintro e w7 ⟨rfl, rfl⟩
  go_wp2_with fail
  go_ret
  exact ⟨rfl, q6⟩

set_option maxHeartbeats 1000000 in
set_option maxRecDepth 100000 in
theorem law_KeysGets (l : List UInt8) (w : World) (hb : BitsOk w) (hl : l.length ≤ 9223372036854775807) :
    Calls Tryd.prog 3 #[.string (st l)] w fun e w' => e = .returned (.bool true) ∧ Below w.heap.size w w' := by
  have HB := Lib.hid hb
  clear hb
  by_cases hlen : 2000 < l.length
  · have t1 : (2000 : Int) < (l.length : Int) := by omega
    go_enter Tryd.func3, Tryd.ntmps3
    go_wp2_with fail
    refine (awake4_any w HB.out).mono ?_
    rintro e w1 ⟨rfl, hbl1⟩
    go_wp2_with fail
    go_ret
    exact ⟨rfl, hbl1⟩
  · have t1 : ¬ (2000 : Int) < (l.length : Int) := by omega
    have ml : l.length ≤ maxLen := by simp only [maxLen]; omega
    have hl' : l.length ≤ 1099511627776 := by omega
    go_enter Tryd.func3, Tryd.ntmps3
    go_wp2_with (refine wpList_bytes_of_st _ rfl (.tmp 14) rfl tS tB tU ml rfl ?_; intro A2 c2 w2 hbs2 hbl2 hsz2)
    refine (kget_any _ _ l w2 hl' hbs2).mono ?_
    rintro e w3 ⟨rfl, hbl3⟩
    have q3 := below_chain hbl2 hbl3
    clear hbs2 hbl2 hbl3 hsz2
    have HR := Lib.hid (refKGet_any l w3 hl')
    cases hg : keyGet l with
    | none =>
      have HR2 := HR.out
      rw [hg] at HR2
      rw [kgetV]
      rw [kgetV] at HR2
      have HR3 := Lib.hid HR2
      clear HR2 HR hg
      go_wp2_with fail
      refine HR3.out.mono ?_
      rintro e w4 ⟨rfl, rfl⟩
      go_wp2_with fail
      refine (awake4_any w3 (HB.out.later q3)).mono ?_
      rintro e w5 ⟨rfl, hbl5⟩
      go_wp2_with fail
      go_ret
      exact ⟨rfl, below_chain q3 hbl5⟩
    | some kd =>
      obtain ⟨k, d⟩ := kd
      have HR2 := HR.out
      rw [hg] at HR2
      rw [kgetV]
      rw [kgetV] at HR2
      generalize 18446744073709551615 - d = t at *
      have HR3 := Lib.hid HR2
      clear HR2 HR hg
      go_wp2_with fail
      refine HR3.out.mono ?_
      rintro e w4 ⟨rfl, rfl⟩
      go_wp2_with fail
      refine (awake4_any w3 (HB.out.later q3)).mono ?_
      rintro e w5 ⟨rfl, hbl5⟩
      go_wp2_with fail
      go_ret
      exact ⟨rfl, below_chain q3 hbl5⟩

set_option maxHeartbeats 1000000 in
set_option maxRecDepth 100000 in
theorem law_KeysIn (k f t : List UInt8) (w : World) (hb : BitsOk w) (hk : k.length ≤ 9223372036854775807) (hf : f.length ≤ 9223372036854775807) (ht : t.length ≤ 9223372036854775807) :
    Calls Tryd.prog 8 #[.string (st k), .string (st f), .string (st t)] w fun e w' => e = .returned (.bool true) ∧ Below w.heap.size w w' := by
  have HB := Lib.hid hb
  clear hb
  have HI0 := Lib.hid (fun w => in_any k f t false w)
  have HI1 := Lib.hid (fun w => in_any k f t true w)
  cases h1 : Op.bytesLess k f <;> cases h2 : Op.bytesLess k t
  all_goals
    go_enter Tryd.func8, Tryd.ntmps8
    go_wp2_with fail
    refine (awake4_any w HB.out).mono ?_
    rintro e w1 ⟨rfl, q1⟩
    go_wp2_with fail
    refine (HI0.out w1).mono ?_
    rintro e w2 ⟨rfl, rfl⟩
    rw [h1, h2]
    go_wp2_with fail
    refine (HI1.out w1).mono ?_
    rintro e w2 ⟨rfl, rfl⟩
    rw [h1, h2]
    go_wp2_with fail
    go_ret
    exact ⟨rfl, q1⟩

set_option maxHeartbeats 1000000 in
set_option maxRecDepth 100000 in
theorem law_KeysNext (l m : List UInt8) (w : World) (hb : BitsOk w) (hl : l.length ≤ 9223372036854775807) (hm : m.length ≤ 9223372036854775807) :
    Calls Tryd.prog 5 #[.string (st l), .string (st m)] w fun e w' => e = .returned (.bool true) ∧ Below w.heap.size w w' := by
  have HB := Lib.hid hb
  clear hb
  by_cases hlen : 1000 < l.length ∨ 1000 < m.length
  · have hcase : (1000 : Int) < (l.length : Int) ∨ (¬ (1000 : Int) < (l.length : Int) ∧ (1000 : Int) < (m.length : Int)) := by omega
    clear hlen
    rcases hcase with t1 | ⟨t1, t2⟩
    all_goals
      go_enter Tryd.func5, Tryd.ntmps5
      go_wp2_with fail
      refine (awake4_any w HB.out).mono ?_
      rintro e w1 ⟨rfl, hbl1⟩
      go_wp2_with fail
      go_ret
      exact ⟨rfl, hbl1⟩
  · have t1 : ¬ (1000 : Int) < (l.length : Int) := by omega
    have t2 : ¬ (1000 : Int) < (m.length : Int) := by omega
    obtain ⟨x1, x2, _⟩ := less_asym (less_snoc l)
    have hcase : (Op.bytesLess m l = true) ∨ l = m ∨ (Op.bytesLess m l = false ∧ (m == l) = false ∧ Op.bytesLess m (l ++ [0]) = false) := by
      rcases less_cases l m with h | h | h
      · exact .inr (.inr ⟨h.2.1, h.2.2.2.1, less_next l m h.1⟩)
      · exact .inr (.inl h)
      · exact .inl h.1
    rcases hcase with h1 | rfl | ⟨h1, h2, h3⟩
    all_goals
      go_enter Tryd.func5, Tryd.ntmps5
      go_wp2_with fail
      refine (knext_any l w (by omega)).mono ?_
      rintro e w1 ⟨rfl, rfl⟩
      go_wp2_with fail
      refine (awake4_any w HB.out).mono ?_
      rintro e w2 ⟨rfl, q2⟩
      go_wp2_with fail
      go_ret
      exact ⟨rfl, q2⟩
end Go.Proofs.YtdmighkfmbcbmaaDoor
