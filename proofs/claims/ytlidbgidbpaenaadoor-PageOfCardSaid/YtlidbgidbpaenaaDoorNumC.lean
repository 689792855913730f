/- num.Cmp: what it returns. -/
import Derived.Test.YtlidbgidbpaenaaDoorNumB
namespace Go.Proofs.YtlidbgidbpaenaaDoor
open Go Go.RowKit
set_option linter.unusedVariables false

theorem cmpB_step {l m : List UInt8} {i : Nat} (hi : i < l.length) (hi' : i < m.length) :
    cmpB (l.drop i) (m.drop i) = if l[i].toNat < m[i].toNat then -1 else if m[i].toNat < l[i].toNat then 1 else cmpB (l.drop (i + 1)) (m.drop (i + 1)) := by
  rw [List.drop_eq_getElem_cons hi, List.drop_eq_getElem_cons hi', cmpB]
theorem cmpB_endl {l m : List UInt8} {i : Nat} (hi : l.length ≤ i) (him : i ≤ m.length) (hil : i ≤ l.length) : cmpB (l.drop i) (m.drop i) = if l.length < m.length then -1 else 0 := by
  rw [List.drop_eq_nil_of_le hi]
  by_cases h : i < m.length
  · rw [List.drop_eq_getElem_cons h, if_pos (by omega), cmpB]
  · rw [List.drop_eq_nil_of_le (by omega), if_neg (by omega), cmpB]
theorem cmpB_endm {l m : List UInt8} {i : Nat} (hi : m.length ≤ i) (him : i ≤ m.length) (h : i < l.length) : cmpB (l.drop i) (m.drop i) = 1 := by
  rw [List.drop_eq_nil_of_le hi, List.drop_eq_getElem_cons h, cmpB]
theorem ret_i64 {a b : Int} (h : a = b) : Ending.returned (.int .i64 a) = .returned (.int .i64 b) := by rw [h]

end Go.Proofs.YtlidbgidbpaenaaDoor
