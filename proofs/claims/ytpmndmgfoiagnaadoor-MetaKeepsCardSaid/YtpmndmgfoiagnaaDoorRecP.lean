/- Records as bytes: plain functions and their laws. -/
import Derived.Test.YtpmndmgfoiagnaaDoorNumP
import Derived.Test.YtpmndmgfoiagnaaDoorSumD
namespace Go.Proofs.YtpmndmgfoiagnaaDoor
open Go
set_option linter.unusedVariables false

def rdErrP (e : Nat) : Nat := if e = 10 then 30 else e
/-- Reader.Num, Reader.Text: what is taken, what is left, the fault. -/
def rdNum (l : List UInt8) (err : Nat) : Nat × List UInt8 × Nat :=
  if err ≠ 0 then (0, l, err) else match getVarB l with
    | .error er => (0, l, rdErrP er)
    | .ok (x, n) => (x, l.drop n, 0)
def rdText (l : List UInt8) (err : Nat) : List UInt8 × List UInt8 × Nat :=
  if err ≠ 0 then ([], l, err) else match getVarB l with
    | .error er => ([], l, rdErrP er)
    | .ok (x, n) => if 65536 < x then ([], l, 32) else if (l.drop n).length < x then ([], l, 30) else ((l.drop n).take x, (l.drop n).drop x, 0)
theorem rdNum_put {x : Nat} (hx : x < U64) (s : List UInt8) : rdNum (varB x ++ s) 0 = (x, s, 0) := by
  unfold rdNum
  rw [if_neg (by simp), getVarB_varB hx]
  simp
theorem rdText_put {t : List UInt8} (ht : t.length ≤ 65536) (s : List UInt8) : rdText (varB t.length ++ (t ++ s)) 0 = (t, s, 0) := by
  unfold rdText
  rw [if_neg (by simp), getVarB_varB (by unfold U64; omega)]
  simp only [List.drop_left]
  rw [if_neg (by omega), if_neg (by simp)]
  simp

/-- A record's fields; its bytes. -/
def recF (q : Nat) (t : List UInt8) : List UInt8 := varB q ++ (varB t.length ++ t)
def recS (q : Nat) (t : List UInt8) : List UInt8 := recF q t ++ beB (sumOf (recF q t)).toNat 4
def recB (q : Nat) (t : List UInt8) : List UInt8 := beB (recS q t).length 4 ++ recS q t
/-- The record that stands first, and how many bytes it has. -/
def recGet (l : List UInt8) : Option ((Nat × List UInt8) × Nat) :=
  if l.length < 4 ∨ (l.drop 4).length < deB (l.take 4) then none
  else match openB ((l.drop 4).take (deB (l.take 4))) with
    | .error _ => none
    | .ok f =>
      if (rdText (rdNum f 0).2.1 (rdNum f 0).2.2).2.2 = 0 ∧ (rdText (rdNum f 0).2.1 (rdNum f 0).2.2).2.1 = [] ∧ (rdText (rdNum f 0).2.1 (rdNum f 0).2.2).1.length ≤ 32768
      then some (((rdNum f 0).1, (rdText (rdNum f 0).2.1 (rdNum f 0).2.2).1), 4 + deB (l.take 4)) else none
theorem recF_len {q : Nat} {t : List UInt8} (hq : q < U64) (ht : t.length ≤ 32768) : (recF q t).length ≤ 32800 := by
  unfold recF
  have h1 := varB_le 9 q (Nat.lt_of_lt_of_le hq (by unfold U64; decide))
  have h2 := varB_le 9 t.length (Nat.lt_of_le_of_lt ht (by decide))
  rw [List.length_append, List.length_append]
  omega
theorem recS_len (q : Nat) (t : List UInt8) : (recS q t).length = (recF q t).length + 4 := by
  unfold recS; rw [List.length_append, beB_length]
theorem recB_len (q : Nat) (t : List UInt8) : (recB q t).length = 4 + ((recF q t).length + 4) := by
  unfold recB; rw [List.length_append, beB_length, recS_len]
theorem recB_head {q : Nat} {t : List UInt8} (hq : q < U64) (ht : t.length ≤ 32768) (s : List UInt8) : (recB q t ++ s).take 4 = beB (recS q t).length 4 ∧ (recB q t ++ s).drop 4 = recS q t ++ s ∧ deB (beB (recS q t).length 4) = (recS q t).length := by
  have h4 : (beB (recS q t).length 4).length = 4 := beB_length _ _
  refine ⟨?_, ?_, ?_⟩
  · unfold recB
    rw [List.append_assoc, List.take_append_of_le_length (by omega), List.take_of_length_le (by omega)]
  · unfold recB
    rw [List.append_assoc, List.drop_append_of_le_length (by omega), List.drop_eq_nil_of_le (by omega), List.nil_append]
  · apply deB_beB
    have := recF_len hq ht
    rw [recS_len]
    exact Nat.lt_of_le_of_lt (by omega : _ ≤ 32804) (by decide)
theorem openB_recS (q : Nat) (t : List UInt8) : openB (recS q t) = .ok (recF q t) := by
  have h4 : (beB (sumOf (recF q t)).toNat 4).length = 4 := beB_length _ _
  have e : (recS q t).take ((recS q t).length - 4) = recF q t := by
    rw [recS_len, Nat.add_sub_cancel]
    unfold recS
    rw [List.take_left]
  unfold openB
  rw [if_neg (by rw [recS_len]; omega), e]
  exact if_pos rfl
theorem recGet_put {q : Nat} {t : List UInt8} (hq : q < U64) (ht : t.length ≤ 32768) (s : List UInt8) : recGet (recB q t ++ s) = some ((q, t), (recB q t).length) := by
  obtain ⟨h1, h2, h3⟩ := recB_head hq ht s
  have hl := recB_len q t
  have e1 : rdNum (recF q t) 0 = (q, varB t.length ++ (t ++ []), 0) := by unfold recF; rw [List.append_nil]; exact rdNum_put hq _
  have e2 := rdText_put (t := t) (by omega) []
  unfold recGet
  rw [h1, h2, h3, if_neg (by rw [List.length_append, List.length_append, hl]; omega), List.take_append_of_le_length (Nat.le_refl _), List.take_of_length_le (Nat.le_refl _), openB_recS]
  simp only [e1, e2]
  rw [if_pos ⟨trivial, trivial, ht⟩, hl, recS_len]
/-- Of a record that is cut off nothing is got. -/
theorem recGet_cut {q : Nat} {t : List UInt8} (hq : q < U64) (ht : t.length ≤ 32768) {k : Nat} (hk : k < (recB q t).length) : recGet ((recB q t).take k) = none := by
  obtain ⟨h1, h2, h3⟩ := recB_head hq ht []
  rw [List.append_nil] at h1 h2
  have hl := recB_len q t
  unfold recGet
  by_cases h4 : k < 4
  · rw [if_pos (.inl (by rw [List.length_take]; omega))]
  · refine if_pos (.inr ?_)
    rw [List.take_take, Nat.min_eq_left (by omega), h1, h3, List.length_drop, List.length_take, recS_len]
    omega
end Go.Proofs.YtpmndmgfoiagnaaDoor
