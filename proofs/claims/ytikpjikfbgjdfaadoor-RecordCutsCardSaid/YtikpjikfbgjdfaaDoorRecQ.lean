/- Records one behind the other: plain. -/
import Derived.Test.YtikpjikfbgjdfaaDoorRecP
namespace Go.Proofs.YtikpjikfbgjdfaaDoor
open Go
set_option linter.unusedVariables false

/-- The records that stand one behind the other from a number on, and how many bytes they have. -/
def recScan : Nat → List UInt8 → Nat → List (Nat × List UInt8) × Nat
  | 0, _, _ => ([], 0)
  | k + 1, l, f => match recGet l with
    | none => ([], 0)
    | some (r, n) => if r.1 = f % U64 then (r :: (recScan k (l.drop n) (f + 1)).1, n + (recScan k (l.drop n) (f + 1)).2) else ([], 0)
theorem recGet_len {l : List UInt8} {r : Nat × List UInt8} {n : Nat} (h : recGet l = some (r, n)) : 8 ≤ n ∧ n ≤ l.length := by
  unfold recGet at h
  split at h
  · cases h
  · rename_i hc
    split at h
    · cases h
    · rename_i f hf
      split at h
      · injection h with h
        injection h with _ h
        unfold openB at hf
        split at hf
        · cases hf
        · rename_i h4
          rw [List.length_take] at h4
          rw [List.length_drop] at hc h4
          omega
      · cases h
theorem recGet_nil : recGet [] = none := by unfold recGet; rw [if_pos (.inl (by simp))]
/-- No more rounds than bytes. -/
theorem recScan_fuel : ∀ (k j : Nat) (l : List UInt8) (f : Nat), l.length ≤ k → l.length ≤ j → recScan k l f = recScan j l f
  | 0, 0, _, _, _, _ => rfl
  | 0, j + 1, l, f, h, _ => by
    obtain rfl : l = [] := List.eq_nil_of_length_eq_zero (by omega)
    rw [recScan, recScan, recGet_nil]
  | k + 1, 0, l, f, _, h => by
    obtain rfl : l = [] := List.eq_nil_of_length_eq_zero (by omega)
    rw [recScan, recScan, recGet_nil]
  | k + 1, j + 1, l, f, h1, h2 => by
    rw [recScan, recScan]
    cases hg : recGet l with
    | none => rfl
    | some x =>
      obtain ⟨r, n⟩ := x
      have hn := recGet_len hg
      simp only
      rw [recScan_fuel k j (l.drop n) (f + 1) (by rw [List.length_drop]; omega) (by rw [List.length_drop]; omega)]

/-- Bodies numbered from f on: their records' bytes. -/
def allB : Nat → List (List UInt8) → List UInt8
  | _, [] => []
  | f, t :: ts => recB (f % U64) t ++ allB (f + 1) ts
def numbered : Nat → List (List UInt8) → List (Nat × List UInt8)
  | _, [] => []
  | f, t :: ts => (f % U64, t) :: numbered (f + 1) ts
/-- How many are whole within n bytes, and how many bytes these have. -/
def wholeB : Nat → List (List UInt8) → Nat → Nat × Nat
  | _, [], _ => (0, 0)
  | f, t :: ts, n => if (recB (f % U64) t).length ≤ n then ((wholeB (f + 1) ts (n - (recB (f % U64) t).length)).1 + 1, (recB (f % U64) t).length + (wholeB (f + 1) ts (n - (recB (f % U64) t).length)).2) else (0, 0)
theorem recScan_cut : ∀ (ts : List (List UInt8)) (f n k : Nat), (∀ t ∈ ts, t.length ≤ 32768) → n ≤ (allB f ts).length → n ≤ k →
    recScan k ((allB f ts).take n) f = ((numbered f ts).take (wholeB f ts n).1, (wholeB f ts n).2)
  | [], f, n, k, _, hn, hk => by
    match k with
    | 0 => simp [recScan, numbered, wholeB]
    | k + 1 => simp [recScan, allB, numbered, wholeB, recGet_nil]
  | t :: ts, f, n, k, ht, hn, hk => by
    have hq : f % U64 < U64 := Nat.mod_lt _ (by unfold U64; decide)
    have htl : t.length ≤ 32768 := ht t (by simp)
    have hpos : 8 ≤ (recB (f % U64) t).length := by rw [recB_len]; omega
    rw [allB, wholeB]
    by_cases hc : (recB (f % U64) t).length ≤ n
    · rw [if_pos hc]
      obtain ⟨k, rfl⟩ : ∃ k', k = k' + 1 := ⟨k - 1, by omega⟩
      have e : (recB (f % U64) t ++ allB (f + 1) ts).take n = recB (f % U64) t ++ (allB (f + 1) ts).take (n - (recB (f % U64) t).length) := by
        rw [List.take_append, List.take_of_length_le hc]
      rw [e, recScan, recGet_put hq htl]
      simp only
      rw [if_pos trivial, List.drop_left]
      have ih := recScan_cut ts (f + 1) (n - (recB (f % U64) t).length) k (fun x hx => ht x (by simp [hx])) (by rw [allB, List.length_append] at hn; omega) (by omega)
      rw [ih, numbered, List.take_succ_cons]
    · rw [if_neg hc]
      have e : (recB (f % U64) t ++ allB (f + 1) ts).take n = (recB (f % U64) t).take n := by
        rw [List.take_append_of_le_length (by omega)]
      rw [e]
      match k with
      | 0 => simp [recScan]
      | k + 1 =>
        rw [recScan, recGet_cut hq htl (by omega)]
        simp
end Go.Proofs.YtikpjikfbgjdfaaDoor
