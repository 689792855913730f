/- The statements of layer 9: SpaceOf. -/
import Derived.Test.YtlhdeclimodfdaaDoorSpaK
namespace Go.Proofs.YtlhdeclimodfdaaDoor
open Go Go.RowKit
set_option linter.unusedVariables false

set_option maxHeartbeats 2000000 in
set_option maxRecDepth 100000 in
theorem law_SpaceOf (b : List UInt8) (w : World) (hT : TabOk w) (hb : b.length ≤ 9223372036854775807) :
    Calls Tryd.prog 7 #[.string (st b)] w fun e w' => e = .returned (.bool true) ∧ Below w.heap.size w w' := by
  have HT := Lib.hid hT
  clear hT
  by_cases hl : b.length ≤ 1000
  · have hm : b.length ≤ maxLen := by unfold maxLen; omega
    go_enter Tryd.func7, Tryd.ntmps7
    go_wp2_with (refine wpList_bytes_of_st _ rfl (.tmp 12) rfl tS tB tU hm rfl ?_; intro A1 c1 w1 hbs1 hbl1 hsz1)
    refine (spOf_any _ _ b w1 (by omega) hbs1).mono ?_
    rintro e w2 ⟨hpost, hbl2⟩
    have q2 := below_chain hbl1 hbl2
    clear hbs1 hsz1 hbl1 hbl2
    rcases hpost with ⟨m, g, hof, rfl, hg, hs2⟩ | ⟨hof, rfl⟩
    · have HS2 := Lib.hid hs2
      have HOF := Lib.hid hof
      clear hs2 hof
      go_wp2_with fail
      refine (refOf9_any b w2 (by omega)).mono ?_
      rintro e w3 ⟨hpost, hbl3⟩
      rw [HOF.out] at hpost
      rcases hpost with ⟨m2, v, hm2, rfl, hf3⟩ | ⟨hno, _⟩
      · injection hm2 with hm2
        subst hm2
        obtain ⟨A3, k3, c3, rfl⟩ := own_slice hf3
        have q3 := below_chain q2 hbl3
        have HS3 := Lib.hid (HS2.out.later hbl3)
        have HF3 := Lib.hid hf3
        clear hbl3 q2 HS2 hf3
        go_wp2_with fail
        refine (awake9_any w3 (HT.out.later q3)).mono ?_
        rintro e w4 ⟨rfl, hbl4⟩
        have q4 := below_chain q3 hbl4
        have HS4 := Lib.hid (HS3.out.later hbl4)
        have HF4 := Lib.hid (Fl.later HF3.out hbl4)
        clear hbl4 q3 HS3 HF3
        go_wp2_with fail
        refine (alike_any g _ _ m w4 HS4.out HF4.out).mono ?_
        rintro e w5 ⟨rfl, hbl5⟩
        have q5 := below_chain q4 hbl5
        have HS5 := Lib.hid (HS4.out.later hbl5)
        clear hbl5 q4 HS4 HF4
        go_wp2_with fail
        refine (spbytes_any g m w5 HS5.out).mono ?_
        rintro e w6 ⟨A6, k6, c6, rfl, hown6, hbl6⟩
        rw [spB_ofB HOF.out] at hown6
        have cv := run_string_of_bs (P := Tryd.prog) hown6.bs tB tU tS
        have q6 := below_chain q5 hbl6
        clear hown6 hbl6 q5
        go_wp2_with fail
        go_ret
        exact ⟨rfl, q6⟩
      · cases hno
    · have HOF := Lib.hid hof
      clear hof
      go_wp2_with fail
      refine (refOf9_any b w2 (by omega)).mono ?_
      rintro e w3 ⟨hpost, hbl3⟩
      rw [HOF.out] at hpost
      rcases hpost with ⟨m2, v, hm2, _⟩ | ⟨_, v, rfl⟩
      · cases hm2
      · have q3 := below_chain q2 hbl3
        clear hbl3 q2
        go_wp2_with fail
        refine (awake9_any w3 (HT.out.later q3)).mono ?_
        rintro e w4 ⟨rfl, hbl4⟩
        have q4 := below_chain q3 hbl4
        go_wp2_with fail
        go_ret
        exact ⟨rfl, q4⟩
  · have hl2 : (1000 : Int) < (b.length : Int) := by omega
    go_enter Tryd.func7, Tryd.ntmps7
    go_wp2_with fail
    refine (awake9_any w HT.out).mono ?_
    rintro e w1 ⟨rfl, q1⟩
    go_wp2_with fail
    go_ret
    exact ⟨rfl, q1⟩
end Go.Proofs.YtlhdeclimodfdaaDoor
