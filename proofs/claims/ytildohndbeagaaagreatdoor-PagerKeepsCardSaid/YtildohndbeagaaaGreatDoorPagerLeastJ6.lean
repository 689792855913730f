/- What the proof of PagerLeast needs, part 6. -/
import Derived.Test.YtildohndbeagaaaGreatDoorPagerLeastJ5

namespace Go.Proofs.YtildohndbeagaaaGreatDoor
open Go Go.RowKit
set_option linter.unusedVariables false

/-- Word i of a space. -/
def wordAt (l : List Bool) (i : Nat) : Nat := wordL ((l.drop (64 * i)).take 64)
theorem wordAt_lt (l : List Bool) (i : Nat) : wordAt l i < 18446744073709551616 := wordL_lt64 (by rw [List.length_take]; omega)
theorem wordAt_bit (l : List Bool) (i j : Nat) (hj : j < 64) : (wordAt l i).testBit j = l.getD (64 * i + j) false := by
  unfold wordAt
  rw [wordL_bit, List.getD_eq_getElem?_getD, List.getD_eq_getElem?_getD, List.getElem?_take, if_pos hj, List.getElem?_drop]
/-- The cells of a space. -/
def spC (l : List Bool) : Array Value := #[.int .i64 (l.length : Int), .int .u64 (wordAt l 0 : Int), .int .u64 (wordAt l 1 : Int), .int .u64 (wordAt l 2 : Int), .int .u64 (wordAt l 3 : Int)]
theorem spC_word (l : List Bool) (i : Nat) (h : i < 4) : (spC l)[1 + i]? = some (.int .u64 (wordAt l i : Int)) := by
  match i, h with
  | 0, _ | 1, _ | 2, _ | 3, _ => rfl
/-- A flag turned. -/
def flipAt (l : List Bool) (k : Nat) : List Bool := l.set k (!(l.getD k false))
theorem flipAt_length (l : List Bool) (k : Nat) : (flipAt l k).length = l.length := by simp [flipAt]
theorem wordAt_flip (l : List Bool) (k : Nat) (hk : k < l.length) : wordAt l (k / 64) ^^^ 2 ^ (k % 64) = wordAt (flipAt l k) (k / 64) := by
  apply Nat.eq_of_testBit_eq
  intro j
  rw [Nat.testBit_xor, Nat.testBit_two_pow]
  by_cases hj : j < 64
  · rw [wordAt_bit _ _ _ hj, wordAt_bit _ _ _ hj]
    unfold flipAt
    by_cases h : k % 64 = j
    · have e : 64 * (k / 64) + j = k := by omega
      rw [e]
      simp [List.getD_eq_getElem?_getD, h, hk]
    · have e : k ≠ 64 * (k / 64) + j := by omega
      simp [List.getD_eq_getElem?_getD, h, e]
  · have hp : 2 ^ 64 ≤ 2 ^ j := Nat.pow_le_pow_right (by omega) (by omega)
    have h1 := wordAt_lt l (k / 64)
    have h2 := wordAt_lt (flipAt l k) (k / 64)
    rw [Nat.testBit_lt_two_pow (Nat.lt_of_lt_of_le h1 hp), Nat.testBit_lt_two_pow (Nat.lt_of_lt_of_le h2 hp)]
    have : ¬ k % 64 = j := by omega
    simp [this]
theorem wordAt_other (l : List Bool) (k i : Nat) (h : i ≠ k / 64) : wordAt (flipAt l k) i = wordAt l i := by
  apply Nat.eq_of_testBit_eq
  intro j
  by_cases hj : j < 64
  · rw [wordAt_bit _ _ _ hj, wordAt_bit _ _ _ hj]
    unfold flipAt
    have e : k ≠ 64 * i + j := by omega
    simp [List.getD_eq_getElem?_getD, e]
  · have hp : 2 ^ 64 ≤ 2 ^ j := Nat.pow_le_pow_right (by omega) (by omega)
    rw [Nat.testBit_lt_two_pow (Nat.lt_of_lt_of_le (wordAt_lt _ i) hp), Nat.testBit_lt_two_pow (Nat.lt_of_lt_of_le (wordAt_lt _ i) hp)]
theorem spC_flip (l : List Bool) (k : Nat) (hk : k < l.length) (h4 : k < 256) : (spC l).setIfInBounds (1 + k / 64) (.int .u64 ((wordAt l (k / 64) ^^^ 2 ^ (k % 64) : Nat) : Int)) = spC (flipAt l k) := by
  rw [wordAt_flip l k hk]
  have hlen := flipAt_length l k
  have hq : k / 64 = 0 ∨ k / 64 = 1 ∨ k / 64 = 2 ∨ k / 64 = 3 := by omega
  unfold spC
  rw [hlen]
  rcases hq with h | h | h | h <;> rw [h]
  · rw [wordAt_other l k 1 (by omega), wordAt_other l k 2 (by omega), wordAt_other l k 3 (by omega)]; rfl
  · rw [wordAt_other l k 0 (by omega), wordAt_other l k 2 (by omega), wordAt_other l k 3 (by omega)]; rfl
  · rw [wordAt_other l k 0 (by omega), wordAt_other l k 1 (by omega), wordAt_other l k 3 (by omega)]; rfl
  · rw [wordAt_other l k 0 (by omega), wordAt_other l k 1 (by omega), wordAt_other l k 2 (by omega)]; rfl
theorem count_word (l : List Bool) (i : Nat) : popN 64 (wordAt l i) = ((l.drop (64 * i)).take 64).count true := popN_word 64 _ (by rw [List.length_take]; omega)
theorem count_next (l : List Bool) (i : Nat) : (l.take (64 * (i + 1))).count true = (l.take (64 * i)).count true + popN 64 (wordAt l i) := by
  rw [count_word, show 64 * (i + 1) = 64 * i + 64 by omega, List.take_add, List.count_append]

/-! ### The first page that is free -/
def firstFree (l : List Bool) : Option Nat := l.findIdx? (fun b => !b)
/-- All of the first m flags are set. -/
def allSet (l : List Bool) (m : Nat) : Prop := ∀ k, k < m → k < l.length → l.getD k false = true
theorem firstFree_some {l : List Bool} {p : Nat} (hp : p < l.length) (h0 : l.getD p false = false) (h : allSet l p) : firstFree l = some p := by
  unfold firstFree
  rw [List.findIdx?_eq_some_iff_getElem]
  refine ⟨hp, ?_, fun j hj => ?_⟩
  · simp [List.getD_eq_getElem?_getD, hp] at h0
    simp [h0]
  · have := h j hj (by omega)
    simp [List.getD_eq_getElem?_getD, show j < l.length by omega] at this
    simp [this]
theorem firstFree_none {l : List Bool} (h : allSet l l.length) : firstFree l = none := by
  unfold firstFree
  rw [List.findIdx?_eq_none_iff]
  intro b hb
  obtain ⟨j, hj, rfl⟩ := List.mem_iff_getElem.1 hb
  have := h j hj hj
  simp [List.getD_eq_getElem?_getD, hj] at this
  simp [this]
theorem firstFree_lt {l : List Bool} {p : Nat} (h : firstFree l = some p) : p < l.length ∧ l.getD p false = false ∧ allSet l p := by
  unfold firstFree at h
  rw [List.findIdx?_eq_some_iff_getElem] at h
  obtain ⟨hp, h0, hj⟩ := h
  refine ⟨hp, ?_, fun j hjp hjl => ?_⟩
  · simp at h0; simp [List.getD_eq_getElem?_getD, hp, h0]
  · have := hj j hjp
    simp at this
    simp [List.getD_eq_getElem?_getD, hjl, this]
theorem firstFree_all {l : List Bool} (h : firstFree l = none) : allSet l l.length := by
  unfold firstFree at h
  rw [List.findIdx?_eq_none_iff] at h
  intro k _ hk
  have := h _ (List.getElem_mem hk)
  simp at this
  simp [List.getD_eq_getElem?_getD, hk, this]

theorem ctz_bits (x : Nat) (h0 : x ≠ 0) (hx : x < 18446744073709551616) : Lib.ctz 64 x < 64 ∧ x.testBit (Lib.ctz 64 x) = true ∧ ∀ j, j < Lib.ctz 64 x → x.testBit j = false := by
  unfold Lib.ctz
  rw [if_neg h0]
  obtain ⟨m, hm, hc⟩ := Lib.ctzFrom_spec 64 x (by omega) hx
  generalize Lib.ctzFrom 64 x = c at *
  refine ⟨hc, ?_, fun j hj => ?_⟩
  · rw [hm, Nat.mul_comm, Nat.testBit_mul_two_pow]
    simp
  · rw [hm, Nat.mul_comm, Nat.testBit_mul_two_pow]
    have : ¬ c ≤ j := by omega
    simp [this]
theorem not_bit (x j : Nat) (hx : x < 18446744073709551616) (hj : j < 64) : (18446744073709551615 - x).testBit j = !x.testBit j := by
  have := Nat.testBit_two_pow_sub_succ (n := 64) hx j
  rw [show 2 ^ 64 - (x + 1) = 18446744073709551615 - x by omega] at this
  rw [this]
  simp [hj]
/-- A word with all bits set: its 64 flags are. -/
theorem word_full {l : List Bool} {i : Nat} (h : allSet l (64 * i)) (hw : wordAt l i = 18446744073709551615) : allSet l (64 * (i + 1)) := by
  intro k hk hl
  by_cases h1 : k < 64 * i
  · exact h k h1 hl
  · have hb := wordAt_bit l i (k - 64 * i) (by omega)
    rw [hw, show 64 * i + (k - 64 * i) = k by omega] at hb
    rw [← hb, show (18446744073709551615 : Nat) = 2 ^ 64 - 1 from rfl, Nat.testBit_two_pow_sub_one]
    simp
    omega
/-- Otherwise its first bit that is not set stands for the first flag that is not. -/
theorem word_free {l : List Bool} {i : Nat} (h : allSet l (64 * i)) (hw : ¬ wordAt l i = 18446744073709551615) :
    ∃ c, Lib.ctz 64 (18446744073709551615 - wordAt l i) = c ∧ c < 64 ∧ allSet l (64 * i + c) ∧ l.getD (64 * i + c) false = false := by
  have hx := wordAt_lt l i
  obtain ⟨h1, h2, h3⟩ := ctz_bits (18446744073709551615 - wordAt l i) (by omega) (by omega)
  refine ⟨_, rfl, h1, ?_, ?_⟩
  · intro k hk hl
    by_cases h4 : k < 64 * i
    · exact h k h4 hl
    · have h5 := h3 (k - 64 * i) (by omega)
      rw [not_bit _ _ hx (by omega), wordAt_bit l i _ (by omega), show 64 * i + (k - 64 * i) = k by omega] at h5
      simpa using h5
  · rw [not_bit _ _ hx h1, wordAt_bit l i _ h1] at h2
    simpa using h2

/-! ### What is asked of a space -/
def hasB (l : List Bool) (p : Int) : Bool := decide (0 ≤ p) && decide (p < l.length) && l.getD p.toNat false
theorem hasB_nat (l : List Bool) (k : Nat) : hasB l k = l.getD k false := by
  unfold hasB
  by_cases h : k < l.length
  · simp [h]
  · simp [List.getD_eq_getElem?_getD, List.getElem?_eq_none (Nat.le_of_not_lt h)]
/-- What an act makes of a space, and its answer: the page, the error. -/
def takeB (l : List Bool) : List Bool × Nat × Nat := match firstFree l with
  | some p => (flipAt l p, p, 0)
  | none => (l, 0, 91)
def claimB (l : List Bool) (p : Int) : List Bool × Nat := if p < 0 ∨ (l.length : Int) ≤ p ∨ hasB l p = true then (l, 92) else (flipAt l p.toNat, 0)
def freeB (l : List Bool) (p : Int) : List Bool × Nat := if hasB l p = true then (flipAt l p.toNat, 0) else (l, 92)
def doB (l : List Bool) (kind page : Int) : List Bool × Nat × Nat :=
  if kind = 0 then takeB l else if kind = 1 then ((claimB l page).1, 0, (claimB l page).2) else if kind = 2 then ((freeB l page).1, 0, (freeB l page).2) else (l, 0, 0)
theorem takeB_len (l : List Bool) : (takeB l).1.length = l.length := by
  unfold takeB; split <;> simp [flipAt_length]
theorem claimB_len (l : List Bool) (p : Int) : (claimB l p).1.length = l.length := by
  unfold claimB; split <;> simp [flipAt_length]
theorem freeB_len (l : List Bool) (p : Int) : (freeB l p).1.length = l.length := by
  unfold freeB; split <;> simp [flipAt_length]
theorem doB_len (l : List Bool) (k p : Int) : (doB l k p).1.length = l.length := by
  unfold doB
  split
  · exact takeB_len l
  · split
    · exact claimB_len l p
    · split
      · exact freeB_len l p
      · rfl
end Go.Proofs.YtildohndbeagaaaGreatDoor
