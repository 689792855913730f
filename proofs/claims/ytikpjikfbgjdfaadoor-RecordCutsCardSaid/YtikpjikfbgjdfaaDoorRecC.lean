/- What RecordCuts gathers: plain; rows of the call's own beside one another. -/
import Derived.Test.YtikpjikfbgjdfaaDoorRecL
import Derived.Test.YtikpjikfbgjdfaaDoorOw
namespace Go.Proofs.YtikpjikfbgjdfaaDoor
open Go Go.RowKit
set_option linter.unusedVariables false

theorem allB_snoc : ∀ (ts : List (List UInt8)) (f : Nat) (t : List UInt8), allB f (ts ++ [t]) = allB f ts ++ recB ((f + ts.length) % U64) t
  | [], f, t => by simp [allB]
  | x :: ts, f, t => by
    rw [List.cons_append, allB, allB, allB_snoc ts (f + 1) t, List.append_assoc, List.length_cons, show f + 1 + ts.length = f + (ts.length + 1) by omega]
theorem numbered_snoc : ∀ (ts : List (List UInt8)) (f : Nat) (t : List UInt8), numbered f (ts ++ [t]) = numbered f ts ++ [((f + ts.length) % U64, t)]
  | [], f, t => by simp [numbered]
  | x :: ts, f, t => by
    rw [List.cons_append, numbered, numbered, numbered_snoc ts (f + 1) t, List.cons_append, List.length_cons, show f + 1 + ts.length = f + (ts.length + 1) by omega]
theorem numbered_len : ∀ (ts : List (List UInt8)) (f : Nat), (numbered f ts).length = ts.length
  | [], f => rfl
  | x :: ts, f => by rw [numbered, List.length_cons, List.length_cons, numbered_len ts (f + 1)]
/-- Where the first k records end. -/
def endB (f : Nat) (ts : List (List UInt8)) (k : Nat) : Nat := (allB f (ts.take k)).length
theorem endB_zero (f : Nat) (ts : List (List UInt8)) : endB f ts 0 = 0 := by simp [endB, allB]
theorem endB_succ (f : Nat) (t : List UInt8) (ts : List (List UInt8)) (k : Nat) : endB f (t :: ts) (k + 1) = (recB (f % U64) t).length + endB (f + 1) ts k := by
  simp [endB, allB]
theorem endB_all (f : Nat) (ts : List (List UInt8)) : endB f ts ts.length = (allB f ts).length := by simp [endB]
theorem endB_le (f : Nat) (ts : List (List UInt8)) (h : ∀ t ∈ ts, t.length ≤ 100) (k : Nat) : endB f ts k ≤ 40000 * k := by
  induction ts generalizing f k with
  | nil => simp [endB, allB]
  | cons t ts ih =>
    rcases k with _ | k
    · simp [endB_zero]
    · have hq : f % U64 < U64 := Nat.mod_lt _ (by unfold U64; decide)
      have h1 := recF_len hq (show t.length ≤ 32768 by have := h t (by simp); omega)
      have h2 := recB_len (f % U64) t
      have := ih (f + 1) (fun x hx => h x (by simp [hx])) k
      rw [endB_succ]
      omega
theorem allB_take_succ {f : Nat} {ts : List (List UInt8)} {i : Nat} (h : i < ts.length) : allB f (ts.take (i + 1)) = allB f (ts.take i) ++ recB ((f + i) % U64) ts[i] := by
  rw [List.take_succ_eq_append_getElem h, allB_snoc, List.length_take, Nat.min_eq_left (Nat.le_of_lt h)]
theorem numbered_take_succ {f : Nat} {ts : List (List UInt8)} {i : Nat} (h : i < ts.length) : numbered f (ts.take (i + 1)) = numbered f (ts.take i) ++ [((f + i) % U64, ts[i])] := by
  rw [List.take_succ_eq_append_getElem h, numbered_snoc, List.length_take, Nat.min_eq_left (Nat.le_of_lt h)]
/-- The ends so far. -/
def endsB (f : Nat) (ts : List (List UInt8)) (i : Nat) : List Nat := (List.range (i + 1)).map (endB f ts)
theorem endsB_len (f : Nat) (ts : List (List UInt8)) (i : Nat) : (endsB f ts i).length = i + 1 := by simp [endsB]
theorem endsB_zero (f : Nat) (ts : List (List UInt8)) : endsB f ts 0 = [0] := by simp [endsB, List.range_succ, endB_zero]
theorem endsB_succ (f : Nat) (ts : List (List UInt8)) (i : Nat) : endsB f ts (i + 1) = endsB f ts i ++ [endB f ts (i + 1)] := by
  unfold endsB
  rw [List.range_succ, List.map_append]
  rfl
theorem endsB_at {f : Nat} {ts : List (List UInt8)} {i k : Nat} (h : k ≤ i) : (endsB f ts i).getD k 0 = endB f ts k := by
  unfold endsB
  rw [List.getD_eq_getElem?_getD, List.getElem?_map, List.getElem?_range (by omega)]
  rfl
theorem wholeB_of : ∀ (k : Nat) (f : Nat) (ts : List (List UInt8)) (n : Nat), k ≤ ts.length → endB f ts k ≤ n → (k < ts.length → n < endB f ts (k + 1)) → wholeB f ts n = (k, endB f ts k)
  | 0, f, [], n, _, _, _ => by rw [endB_zero]; rfl
  | 0, f, t :: ts, n, _, _, h => by
    have := h (by simp)
    rw [endB_succ, endB_zero] at this
    rw [wholeB, if_neg (by omega), endB_zero]
  | k + 1, f, [], n, h, _, _ => by simp at h
  | k + 1, f, t :: ts, n, h1, h2, h3 => by
    rw [endB_succ] at h2
    have ih := wholeB_of k (f + 1) ts (n - (recB (f % U64) t).length) (by simpa using h1) (by omega) (fun hk => by
      have := h3 (by simpa using hk)
      rw [endB_succ] at this
      omega)
    rw [wholeB, if_pos (by omega), ih, endB_succ]

/-! ### Rows of the call's own, of other types, beside one another -/
theorem rows_ne {w : World} {B B' : Nat} {e e' : TypeId} {size size' n n' : Nat} {v v' : Value} {xs xs' : List Value} (h : w.ownsRow B e size v n xs) (h' : w.ownsRow B' e' size' v' n' xs') (hne : e ≠ e') : ∀ k, v.ownBlock = some k → v'.ownBlock ≠ some k := by
  intro k hk hk'
  rcases h.2 with ⟨rfl, _⟩ | ⟨g, cap, cur, rfl, _, hh, _⟩
  · cases hk
  · rcases h'.2 with ⟨rfl, _⟩ | ⟨g', cap', cur', rfl, _, hh', _⟩
    · cases hk'
    · simp only [Value.ownBlock, Option.some.injEq] at hk hk'
      subst hk
      subst hk'
      rw [hh] at hh'
      injection hh' with hh'
      injection hh' with _ he
      exact hne he
theorem own_kept {w w' : World} {B B' : Nat} {e e' : TypeId} {size size' n n' : Nat} {v v' : Value} {xs xs' : List Value} (h : w.ownsRow B e size v n xs) (h' : w.ownsRow B' e' size' v' n' xs') (hne : e ≠ e') (hg : w.grownBy w' v'.ownBlock) : w'.ownsRow B e size v n xs := by
  have hn := rows_ne h h' hne
  obtain ⟨h1, h2⟩ := h
  refine ⟨h1, ?_⟩
  rcases h2 with h2 | ⟨g, cap, cur, hv, hB, hh, r⟩
  · exact .inl h2
  · refine .inr ⟨g, cap, cur, hv, hB, (hg.block g (lt_of_block hh) (fun e => hn g (by rw [hv]; rfl) e.symm)).trans hh, r⟩
theorem own_later {w w' : World} {B : Nat} {e : TypeId} {size n : Nat} {v : Value} {xs : List Value} (h : w.ownsRow B e size v n xs) (hb : Below w.heap.size w w') : w'.ownsRow B e size v n xs := by
  obtain ⟨h1, h2⟩ := h
  refine ⟨h1, ?_⟩
  rcases h2 with h2 | ⟨g, cap, cur, hv, hg, hh, r⟩
  · exact .inl h2
  · exact .inr ⟨g, cap, cur, hv, hg, (hb.block g (lt_of_block hh)).trans hh, r⟩
theorem own_lower {w : World} {B B' : Nat} {e : TypeId} {size n : Nat} {v : Value} {xs : List Value} (h : w.ownsRow B e size v n xs) (hB : B' ≤ B) : w.ownsRow B' e size v n xs := by
  obtain ⟨h1, h2⟩ := h
  refine ⟨h1, ?_⟩
  rcases h2 with h2 | ⟨g, cap, cur, hv, hg, r⟩
  · exact .inl h2
  · exact .inr ⟨g, cap, cur, hv, Nat.le_trans hB hg, r⟩
theorem own_cases {w : World} {B : Nat} {e : TypeId} {size n k c : Nat} {A : Option Addr} {xs : List Value} (h : w.ownsRow B e size (.slice A k c) n xs) : (A = none ∧ n = 0 ∧ c = 0) ∨ ∃ g, A = some ⟨g, 0, none⟩ ∧ n ≤ c := by
  rcases h.2 with ⟨hv, hn⟩ | ⟨g, cap, cur, hv, _, _, hc, _⟩
  · injection hv with hA _ hc
    exact .inl ⟨hA, hn, hc⟩
  · injection hv with hA _ hc'
    exact .inr ⟨g, hA, by omega⟩
theorem Sl.pre {S : Nat → Prop} {w : World} {size n c : Nat} {A : Option Addr} {xs : List Value} (h : Sl S w size (.slice A n c) n xs) {k : Nat} (hk : k ≤ n) : Sl S w size (.slice A k c) k (xs.take (k * size)) := by
  obtain ⟨h1, A', c', hv, h3, h4, h5, h6⟩ := h
  injection hv with hA _ hc
  subst hA hc
  refine ⟨by rw [List.length_take, h1, Nat.min_eq_left (Nat.mul_le_mul_right _ hk)], A, c, rfl, by omega, h4, h5, fun hn => ?_⟩
  obtain ⟨b, o, hA, hS, hcell⟩ := h6 (by omega)
  refine ⟨b, o, hA, hS, fun j u hu => hcell j u ?_⟩
  have hj := (List.getElem?_eq_some_iff.1 hu).1
  rw [List.length_take] at hj
  rwa [List.getElem?_take_of_lt (by omega)] at hu
theorem rcs_take : ∀ (rs : List (Nat × List UInt8)) (k : Nat), (rcs rs).take (k * 2) = rcs (rs.take k)
  | [], k => by simp [rcs]
  | r :: rs, 0 => by simp [rcs]
  | r :: rs, k + 1 => by
    have := rcs_take rs k
    rw [Nat.add_mul, Nat.one_mul]
    simp only [rcs, List.flatMap_cons, List.take_succ_cons] at this ⊢
    simpa using this
theorem elemInt : Elem Tryd.prog 47 3 (.int .i64 0) 1 8 := Elem.mk' Tryd.underlying47 (by kernel_rfl) rfl (by omega)
end Go.Proofs.YtikpjikfbgjdfaaDoor
