/- num.Cmp: what it returns. -/
import Derived.Test.YtdmighkfmbcbmaaDoorNumB
namespace Go.Proofs.YtdmighkfmbcbmaaDoor
open Go Go.RowKit
set_option linter.unusedVariables false

theorem cmpB_step {l m : List UInt8} {i : Nat} (hi : i < l.length) (hi' : i < m.length) :
    cmpB (l.drop i) (m.drop i) = if l[i].toNat < m[i].toNat then -1 else if m[i].toNat < l[i].toNat then 1 else cmpB (l.drop (i + 1)) (m.drop (i + 1)) := by
  rw [List.drop_eq_getElem_cons hi, List.drop_eq_getElem_cons hi', cmpB]
theorem cmpB_endl {l m : List UInt8} {i : Nat} (hi : l.length ≤ i) (him : i ≤ m.length) (hil : i ≤ l.length) : cmpB (l.drop i) (m.drop i) = if l.length < m.length then -1 else 0 := by
  rw [List.drop_eq_nil_of_le hi]
  by_cases h : i < m.length
  · rw [List.drop_eq_getElem_cons h, if_pos (by omega), cmpB]
  · rw [List.drop_eq_nil_of_le (by omega), if_neg (by omega), cmpB]
theorem cmpB_endm {l m : List UInt8} {i : Nat} (hi : m.length ≤ i) (him : i ≤ m.length) (h : i < l.length) : cmpB (l.drop i) (m.drop i) = 1 := by
  rw [List.drop_eq_nil_of_le hi, List.drop_eq_getElem_cons h, cmpB]
theorem ret_i64 {a b : Int} (h : a = b) : Ending.returned (.int .i64 a) = .returned (.int .i64 b) := by rw [h]

set_option maxHeartbeats 2000000 in
set_option maxRecDepth 100000 in
theorem cmp_any (S S' : Nat → Prop) (v0 v1 : Value) (l m : List UInt8) (w : World) (hl : l.length ≤ 1099511627776) (hm : m.length ≤ 1099511627776) (hr : Bs S w v0 l) (hr' : Bs S' w v1 m) :
    Calls Tryd.prog 21 #[v0, v1] w fun e w' => e = .returned (.int .i64 (cmpB l m)) ∧ Drawn w w' := by
  obtain ⟨A, c, rfl, hlc, hcm, hA0, hA⟩ := hr.at
  obtain ⟨A', c', rfl, hlc', hcm', hA0', hA'⟩ := hr'.at
  have HA := Lib.hid hA
  have HA' := Lib.hid hA'
  clear hA hr hA' hr'
  by_cases hmn : (m.length : Int) < (l.length : Int)
  all_goals
    go_enter Tryd.func21, Tryd.ntmps21
    go_wp2_with fail
    go_loopw [11] (fun iv wr => ∃ i : Nat, iv = .int .i64 (i : Int) ∧ i ≤ l.length ∧ i ≤ m.length ∧ Drawn w wr ∧ Hid (cmpB l m = cmpB (l.drop i) (m.drop i))) (fun iv _ => l.length - (intOf iv).toNat)
    case atStart => exact ⟨0, rfl, by omega, by omega, Drawn.refl _, by simp [Hid]⟩
    case round =>
      obtain ⟨i, rfl, hil, him, hdr, hc⟩ := hrel
      by_cases hi : i < l.length
      · by_cases hi' : i < m.length
        · obtain ⟨b, o, rfl, _, hcell⟩ := HA.out (by omega)
          obtain ⟨b', o', rfl, _, hcell'⟩ := HA'.out (by omega)
          have hcl := hdr.cell (hcell i hi)
          have hcl' := hdr.cell (hcell' i hi')
          clear hcell hcell' HA HA'
          have hst := hc.out.trans (cmpB_step hi hi')
          obtain ⟨x, hx⟩ : ∃ x, x = l[i].toNat := ⟨_, rfl⟩
          obtain ⟨y, hy⟩ : ∃ x, x = m[i].toNat := ⟨_, rfl⟩
          rw [← hx] at hcl
          rw [← hy] at hcl'
          rw [← hx, ← hy] at hst
          have HS := Lib.hid hst
          clear hst hx hy hc
          by_cases h1 : x < y
          · have t1 : (x : Int) < (y : Int) := by omega
            go_wp2_with fail
            go_quiet (fail)
            go_wp2_with fail
            go_ret
            exact ⟨ret_i64 (by rw [HS.out, if_pos h1]), hdr.drewN _⟩
          · by_cases h2 : y < x
            · have t1 : ¬ (x : Int) < (y : Int) := by omega
              have t2 : (y : Int) < (x : Int) := by omega
              go_wp2_with fail
              go_quiet (fail)
              go_wp2_with fail
              go_quiet (fail)
              go_wp2_with fail
              go_ret
              exact ⟨ret_i64 (by rw [HS.out, if_neg h1, if_pos h2]), (hdr.drewN _).drewN _⟩
            · have t1 : ¬ (x : Int) < (y : Int) := by omega
              have t2 : ¬ (y : Int) < (x : Int) := by omega
              have HS2 : Hid (cmpB l m = cmpB (l.drop (i + 1)) (m.drop (i + 1))) := by
                have h := HS.out
                rw [if_neg h1, if_neg h2] at h
                exact h
              go_wp2_with fail
              go_quiet (fail)
              go_wp2_with fail
              go_quiet (fail)
              go_wp2_with fail
              go_roundw
              case rel => exact ⟨i + 1, by go_num, by omega, by omega, hdr.drewN _, HS2⟩
              case measure => simp [intOf]; omega
        · have hst := hc.out.trans (cmpB_endm (by omega) him hi)
          have HS := Lib.hid hst
          clear hst hc
          first | (exfalso; omega) | skip
          go_wp2_with fail
          all_goals
            go_ret
            exact ⟨ret_i64 (by rw [HS.out]), hdr⟩
      · have hst := hc.out.trans (cmpB_endl (by omega) him hil)
        have HS := Lib.hid hst
        clear hst hc
        first | (exfalso; omega) | skip
        go_wp2_with fail
        all_goals
          go_ret
          exact ⟨ret_i64 (by rw [HS.out]; first | rw [if_pos (by omega)] | rw [if_neg (by omega)]), hdr⟩

end Go.Proofs.YtdmighkfmbcbmaaDoor
