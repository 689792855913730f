/- What the proof of PagePuts needs, part 14. -/
import Derived.Test.YtlidbgidbpaenaaDoorPagePutsJ1
import Derived.Test.YtlidbgidbpaenaaDoorPagePutsJ3

namespace Go.Proofs.YtlidbgidbpaenaaDoor
open Go
set_option linter.unusedVariables false

theorem cmpB_trans : ∀ a b c : List UInt8, cmpB a b < 0 → cmpB b c < 0 → cmpB a c < 0
  | [], [], c, h, _ => by simp [cmpB] at h
  | [], b :: bs, [], _, h => by simp [cmpB] at h
  | [], b :: bs, c :: cs, _, _ => by simp [cmpB]
  | a :: as', [], c, h, _ => by simp [cmpB] at h
  | a :: as', b :: bs, [], _, h => by simp [cmpB] at h
  | a :: as', b :: bs, c :: cs, h1, h2 => by
    have ih := cmpB_trans as' bs cs
    unfold cmpB at h1 h2 ⊢
    split at h1
    · split at h2
      · rw [if_pos (by omega)]; decide
      · split at h2
        · omega
        · have e : b.toNat = c.toNat := by omega
          rw [if_pos (by omega)]; decide
    · split at h1
      · omega
      · split at h2
        · rw [if_pos (by omega)]; decide
        · split at h2
          · omega
          · rw [if_neg (by omega), if_neg (by omega)]
            exact ih h1 h2
/-- The keys rise. -/
def RisesP (cs : List Cel) : Prop := ∀ i, (h : i + 1 < cs.length) → Op.bytesLess (cs[i]'(by omega)).1 cs[i + 1].1 = true
theorem rises_lt {cs : List Cel} (h : RisesP cs) : ∀ (d i : Nat), (hd : i + d + 1 < cs.length) → cmpB (cs[i]'(by omega)).1 (cs[i + d + 1]'hd).1 < 0
  | 0, i, hd => by
    have := h i (by omega)
    rw [cmpB_less, decide_eq_true_eq] at this
    exact this
  | d + 1, i, hd => by
    have h1 := rises_lt h d i (by omega)
    have h2 := h (i + d + 1) (by omega)
    rw [cmpB_less, decide_eq_true_eq] at h2
    exact cmpB_trans _ _ _ h1 h2
theorem rises_lt' {cs : List Cel} (h : RisesP cs) {i j : Nat} (hij : i < j) (hj : j < cs.length) : cmpB (cs[i]'(by omega)).1 cs[j].1 < 0 := by
  obtain ⟨d, rfl⟩ : ∃ d, j = i + d + 1 := ⟨j - i - 1, by omega⟩
  exact rises_lt h d i hj
/-- How many cells stand ahead of a key. -/
def findK (cs : List Cel) (k : List UInt8) : Nat := (cs.takeWhile fun c => Op.bytesLess c.1 k).length
theorem findK_le (cs : List Cel) (k : List UInt8) : findK cs k ≤ cs.length := by
  unfold findK
  have := List.takeWhile_append_dropWhile (p := fun c : Cel => Op.bytesLess c.1 k) (l := cs)
  have h := congrArg List.length this
  rw [List.length_append] at h
  omega
theorem findK_lt : ∀ {cs : List Cel} {k : List UInt8} {i : Nat}, (h : i < findK cs k) → Op.bytesLess (cs[i]'(by have := findK_le cs k; omega)).1 k = true
  | [], k, i, h => by simp [findK] at h
  | c :: cs, k, i, h => by
    unfold findK at h
    rw [List.takeWhile_cons] at h
    split at h
    · rename_i hc
      rcases i with _ | i
      · exact hc
      · have := findK_lt (cs := cs) (k := k) (i := i) (by unfold findK; simpa using h)
        simpa using this
    · simp at h
theorem findK_at : ∀ {cs : List Cel} {k : List UInt8}, (h : findK cs k < cs.length) → Op.bytesLess cs[findK cs k].1 k = false
  | [], k, h => by simp at h
  | c :: cs, k, h => by
    by_cases hc : Op.bytesLess c.1 k = true
    · have e : findK (c :: cs) k = findK cs k + 1 := by unfold findK; rw [List.takeWhile_cons, if_pos hc]; rfl
      have h' : findK cs k < cs.length := by rw [e] at h; simpa using h
      have := findK_at h'
      simp only [e, List.getElem_cons_succ]
      exact this
    · have e : findK (c :: cs) k = 0 := by unfold findK; rw [List.takeWhile_cons, if_neg hc]; rfl
      simp only [e, List.getElem_cons_zero]
      simpa using hc
/-- Among rising cells: from there on no key is ahead. -/
theorem findK_iff {cs : List Cel} (hr : RisesP cs) (k : List UInt8) {i : Nat} (hi : i < cs.length) : (!Op.bytesLess cs[i].1 k) = decide (findK cs k ≤ i) := by
  rcases Nat.lt_or_ge i (findK cs k) with h | h
  · rw [findK_lt h]
    simp; omega
  · have hK : findK cs k < cs.length := by omega
    have h0 := findK_at hK
    have hb : Op.bytesLess cs[i].1 k = false := by
      rcases Nat.lt_or_ge (findK cs k) i with hl | hl
      · rw [cmpB_less, decide_eq_false_iff_not] at h0 ⊢
        have h1 := rises_lt' hr hl hi
        intro h2
        exact h0 (cmpB_trans _ _ _ h1 h2)
      · obtain rfl : i = findK cs k := by omega
        exact h0
    rw [hb]
    simp [h]
/-- Whether a key is there. -/
def isK (cs : List Cel) (k : List UInt8) : Bool := match cs[findK cs k]? with
  | some c => c.1 == k
  | none => false
end Go.Proofs.YtlidbgidbpaenaaDoor
