/- The statements of layer 1: NumBack. -/
import Derived.Test.YtgoemlcbpnnciaaDoorLaw1E
import Derived.Test.YtgoemlcbpnnciaaDoorStrB
namespace Go.Proofs.YtgoemlcbpnnciaaDoor
open Go Go.RowKit
set_option linter.unusedVariables false

set_option maxHeartbeats 2000000 in
set_option maxRecDepth 100000 in
theorem law_NumBack (l : List UInt8) (x : Nat) (n : Int) (w : World) (hb : BitsOk w) (hl : l.length ≤ 9223372036854775807) (hx : x < U64) (hn : -9223372036854775808 ≤ n ∧ n ≤ 9223372036854775807) :
    Calls Tryd.prog 10 #[.string (st l), .int .u64 x, .int .i64 n] w fun e w' => e = .returned (.bool true) ∧ Below w.heap.size w w' := by
  have HB := Lib.hid hb
  clear hb hn
  by_cases hlen : 1000 < l.length
  · have t1 : (1000 : Int) < (l.length : Int) := by omega
    go_enter Tryd.func10, Tryd.ntmps10
    go_wp2_with fail
    refine (awake_any w HB.out).mono ?_
    rintro e w1 ⟨rfl, hbl1⟩
    go_wp2_with fail
    go_ret
    exact ⟨rfl, hbl1⟩
  · have t1 : ¬ (1000 : Int) < (l.length : Int) := by omega
    have h10 := varB_le10 hx
    go_enter Tryd.func10, Tryd.ntmps10
    go_wp2_with fail
    refine (putVar_any (fun _ => False) _ [] x w hx (by simp; omega) (Bs.nilv _ _)).mono ?_
    rintro e w1 ⟨A1, k1, c1, rfl, hown1, hbl1⟩
    have hsz1 := hbl1.size
    go_wp2_with (at_builtin; refine wpList_append_st _ rfl (.tmp 21) (.tmp 22) elemU8 tS rfl hown1 rfl rfl (by simp; omega) hsz1 ?_; intro A2 k2 c2 w2 hown2 hg2)
    have hbl2 : Below w.heap.size w w2 := below_grown_own hbl1 hown1 hg2 hsz1
    clear hown1 hg2 hbl1
    refine (getVar_any _ _ _ w2 (by simp; omega) hown2.bs).mono ?_
    rintro e w3 ⟨hok, _⟩
    obtain ⟨A3, k3, c3, rfl, hown3, hbl3⟩ := hok x (varB x).length (by simpa using getVarB_varB hx l)
    have hbl3' := hbl2.trans (hbl3.mono hbl2.size)
    have e3 : List.drop (varB x).length ([] ++ varB x ++ l) = l := by simp
    rw [e3] at hown3
    clear hok hown2 e3
    go_wp2_with fail
    refine (awake_any w3 (HB.out.later hbl3')).mono ?_
    rintro e w4 ⟨rfl, hbl4⟩
    have hbl4' := below_chain hbl3' hbl4
    have hcv := run_string_of_bs (P := Tryd.prog) (hown3.later hbl4).bs tB tU tS
    clear hown3
    go_wp2_with fail
    refine (put_any (fun _ => False) _ [] x n w4 hx (HB.out.later hbl4') (by simp) (Bs.nilv _ _)).mono ?_
    rintro e w5 ⟨hbl5, h1⟩
    have hbl5' := below_chain hbl4' hbl5
    clear hcv
    rcases h1 with ⟨hn1, hn8, hx2, A5, k5, c5, rfl, hown5⟩ | ⟨hbad, rfl⟩
    case' inr =>
      clear hbad
      go_wp2_with fail
      go_ret
      exact ⟨rfl, hbl5'⟩
    obtain ⟨m, rfl⟩ : ∃ m : Nat, n = (m : Int) := ⟨n.toNat, by omega⟩
    rw [Int.toNat_natCast] at hx2 hown5
    have hk5 : k5 = m := by rw [hown5.len]; simp [beB_length]
    subst hk5
    have hsz5 := hbl5.size
    have hlb := beB_length x k5
    have HL := Lib.hid hlb
    clear hlb
    go_wp2_with (at_builtin; refine wpList_append_st _ rfl (.tmp 54) (.tmp 55) elemU8 tS rfl hown5 rfl rfl (by simp [HL.out]; omega) hsz5 ?_; intro A6 k6 c6 w6 hown6 hg6)
    have hbl6 : Below w4.heap.size w4 w6 := below_grown_own hbl5 hown5 hg6 hsz5
    have hbl6' := below_chain hbl4' hbl6
    clear hown5 hg6
    refine (get_ok _ _ _ k5 w6 (by omega) (by omega) (by simp [HL.out]) (by simp [HL.out]; omega) hown6.bs).mono ?_
    rintro e w7 ⟨A7, k7, c7, rfl, hown7, hbl7⟩
    have e7 : List.drop k5 ([] ++ beB x k5 ++ l) = l := by simp [HL.out]
    have e8 : List.take k5 ([] ++ beB x k5 ++ l) = beB x k5 := by
      rw [List.nil_append, List.take_append_of_le_length (by rw [HL.out]; exact Nat.le_refl _), List.take_of_length_le (by rw [HL.out]; exact Nat.le_refl _)]
    rw [e7] at hown7
    rw [e8, deB_beB _ _ hx2]
    have hcv := run_string_of_bs (P := Tryd.prog) hown7.bs tB tU tS
    clear e7 e8 hown7 hown6
    go_wp2_with fail
    go_ret
    exact ⟨rfl, below_chain hbl6' hbl7⟩

end Go.Proofs.YtgoemlcbpnnciaaDoor
