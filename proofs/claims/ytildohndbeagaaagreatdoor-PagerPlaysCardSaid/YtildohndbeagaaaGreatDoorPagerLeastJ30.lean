/- What the proof of PagerLeast needs, part 30. -/
import Derived.Test.YtildohndbeagaaaGreatDoorPagerLeastJ29

namespace Go.Proofs.YtildohndbeagaaaGreatDoor
open Go Go.RowKit
set_option linter.unusedVariables false

theorem range90 {k : Nat} (hk : k < 90) : List.range 90 = List.range k ++ (k :: List.range' (k + 1) (89 - k)) := by
  rw [List.range_eq_range', show 90 = k + ((89 - k) + 1) by omega, ← List.range'_append_1, List.range_eq_range', Nat.zero_add, List.range'_succ]
theorem filter_all {f : Nat → Bool} : ∀ (l : List Nat), (∀ i ∈ l, f i = true) → l.filter f = l
  | [], _ => rfl
  | a :: l, h => by rw [List.filter_cons_of_pos (h a (by simp)), filter_all l fun i hi => h i (by simp [hi])]
theorem Pgr.page_at {P : Pgr} {j : Nat} (h : P.pages[j]? = some j) : P.has (j : Int) = true ∧ j < 90 := by
  have := List.mem_of_getElem? h
  unfold Pgr.pages at this
  rw [List.mem_filter, List.mem_range] at this
  exact ⟨this.2, this.1⟩
/-- The first k pages are there, and the k-th isn't next: it is the least that isn't there. -/
theorem Pgr.least_of {P : Pgr} {k : Nat} (hk : k < 90) (hall : ∀ j, j < k → P.pages[j]? = some j) (hend : P.pages[k]? ≠ some k) : P.has (k : Int) = false ∧ P.least = some k := by
  have hh : ∀ j, j < k → P.has (j : Int) = true := fun j hj => (P.page_at (hall j hj)).1
  have hn : P.has (k : Int) = false := by
    cases hc : P.has (k : Int) with
    | false => rfl
    | true =>
      refine absurd ?_ hend
      unfold Pgr.pages
      rw [range90 hk, List.filter_append, filter_all (List.range k) fun i hi => hh i (List.mem_range.1 hi), List.filter_cons_of_pos (by exact hc), List.getElem?_append_right (by simp)]
      simp
  refine ⟨hn, ?_⟩
  unfold Pgr.least
  rw [range90 hk, List.find?_append]
  have h1 : (List.range k).find? (fun i : Nat => !P.has (i : Int)) = none := by
    rw [List.find?_eq_none]
    intro j hj
    rw [hh j (List.mem_range.1 hj)]
    simp
  rw [h1, List.find?_cons, hn]
  rfl
theorem Pgr.pages_le (P : Pgr) : P.pages.length ≤ 90 := by
  unfold Pgr.pages
  exact Nat.le_trans (List.length_filter_le _ _) (by simp)
theorem Pgr.least_full {P : Pgr} (hall : ∀ j, j < 90 → P.pages[j]? = some j) : P.least = none := by
  unfold Pgr.least
  rw [List.find?_eq_none]
  intro j hj
  rw [(P.page_at (hall j (List.mem_range.1 hj))).1]
  simp
theorem Pgr.has_put (P : Pgr) (x y : Int) (b : List UInt8) : (P.put x b).has y = if y = x then true else P.has y := by
  unfold Pgr.has Pgr.put SF.put gnPut
  simp only
  split <;> simp
theorem Pgr.pages_put {P : Pgr} {k : Nat} (hk : k < 90) (hn : P.has (k : Int) = false) (b : List UInt8) : (P.put (k : Int) b).pages.length = P.pages.length + 1 := by
  have e : ∀ l : List Nat, k ∉ l → l.filter (fun i : Nat => (P.put (k : Int) b).has (i : Int)) = l.filter (fun i : Nat => P.has (i : Int)) := fun l hl => by
    refine List.filter_congr fun i hi => ?_
    rw [Pgr.has_put, if_neg (by intro h; have : i = k := by omega
                                subst this; exact hl hi)]
  unfold Pgr.pages
  rw [range90 hk, List.filter_append, List.filter_append, e _ (by simp), List.filter_cons_of_pos (by rw [Pgr.has_put, if_pos rfl]), List.filter_cons_of_neg (by rw [hn]; simp), e _ (by rw [List.mem_range'_1]; omega)]
  simp
  omega
theorem Pgr.page_put (P : Pgr) (c : Int → List UInt8) (x : Int) (b : List UInt8) : (P.put x b).page c x = some b := by
  unfold Pgr.page
  rw [Pgr.has_put, if_pos rfl]
  unfold Pgr.put SF.put
  simp
theorem Pgr.alloc_long {P : Pgr} {b : List UInt8} (h : 2048 < b.length) : P.alloc b = (P, 0, 132) := by unfold Pgr.alloc; rw [if_pos h]
theorem Pgr.alloc_full {P : Pgr} {b : List UInt8} (h : ¬ 2048 < b.length) (hl : P.least = none) : P.alloc b = (P, 0, 133) := by unfold Pgr.alloc; rw [if_neg h, hl]
theorem Pgr.alloc_at {P : Pgr} {b : List UInt8} (h : ¬ 2048 < b.length) {k : Nat} (hl : P.least = some k) : P.alloc b = (P.put (k : Int) b, k, 0) := by unfold Pgr.alloc; rw [if_neg h, hl]
end Go.Proofs.YtildohndbeagaaaGreatDoor
