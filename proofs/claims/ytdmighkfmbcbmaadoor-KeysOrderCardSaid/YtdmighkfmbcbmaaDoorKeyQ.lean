/- Keys in order, plain: no program is named here. -/
import Derived.Test.YtdmighkfmbcbmaaDoorKeyP
namespace Go.Proofs.YtdmighkfmbcbmaaDoor
open Go Go.RowKit
set_option linter.unusedVariables false

theorem cmpB_cons (x y : UInt8) (l m : List UInt8) : cmpB (x :: l) (y :: m) = if x.toNat < y.toNat then -1 else if y.toNat < x.toNat then 1 else cmpB l m := by rw [cmpB]
theorem cmpB_same (x : UInt8) (l m : List UInt8) : cmpB (x :: l) (x :: m) = cmpB l m := by rw [cmpB_cons, if_neg (by omega), if_neg (by omega)]
theorem pos_of_ne {x : UInt8} (h : x ≠ 0) : 0 < x.toNat := by
  rcases Nat.eq_zero_or_pos x.toNat with h0 | h0
  · exact absurd (UInt8.toNat_inj.1 h0) h
  · exact h0
/-- The order of keys is their bytes' order; of one key, that of what stands behind. -/
theorem key_cmp : ∀ (a b u v : List UInt8), cmpB (keyB a ++ 0 :: 1 :: u) (keyB b ++ 0 :: 1 :: v) = if a = b then cmpB u v else cmpB a b
  | [], [], u, v => by
    rw [if_pos rfl]
    show cmpB (0 :: 1 :: u) (0 :: 1 :: v) = _
    rw [cmpB_same, cmpB_same]
  | [], y :: b, u, v => by
    rw [if_neg (by simp), keyB_cons, show cmpB [] (y :: b) = -1 from by rw [cmpB]]
    by_cases hy : y = 0
    · subst hy
      rw [if_pos rfl]
      show cmpB (0 :: 1 :: u) (0 :: 255 :: (keyB b ++ 0 :: 1 :: v)) = _
      rw [cmpB_same, cmpB_cons, if_pos (by decide)]
    · rw [if_neg hy]
      show cmpB (0 :: 1 :: u) (y :: (keyB b ++ 0 :: 1 :: v)) = _
      have := pos_of_ne hy
      rw [cmpB_cons, if_pos (by simpa using this)]
  | x :: a, [], u, v => by
    rw [if_neg (by simp), keyB_cons, show cmpB (x :: a) [] = 1 from by rw [cmpB]]
    by_cases hx : x = 0
    · subst hx
      rw [if_pos rfl]
      show cmpB (0 :: 255 :: (keyB a ++ 0 :: 1 :: u)) (0 :: 1 :: v) = _
      rw [cmpB_same, cmpB_cons, if_neg (by decide), if_pos (by decide)]
    · rw [if_neg hx]
      show cmpB (x :: (keyB a ++ 0 :: 1 :: u)) (0 :: 1 :: v) = _
      have := pos_of_ne hx
      rw [cmpB_cons, if_neg (by simp), if_pos (by simpa using this)]
  | x :: a, y :: b, u, v => by
    have ih := key_cmp a b u v
    rw [keyB_cons, keyB_cons]
    by_cases hxy : x = y
    · subst hxy
      have e : (x :: a = x :: b) ↔ a = b := by simp
      rw [cmpB_same x a b]
      by_cases hx : x = 0
      · subst hx
        rw [if_pos rfl]
        show cmpB (0 :: 255 :: (keyB a ++ 0 :: 1 :: u)) (0 :: 255 :: (keyB b ++ 0 :: 1 :: v)) = _
        rw [cmpB_same, cmpB_same, ih]
        simp only [e]
      · rw [if_neg hx]
        show cmpB (x :: (keyB a ++ 0 :: 1 :: u)) (x :: (keyB b ++ 0 :: 1 :: v)) = _
        rw [cmpB_same, ih]
        simp only [e]
    · rw [if_neg (show ¬ (x :: a = y :: b) from by simp [hxy]), cmpB_cons x y a b]
      have hne : x.toNat ≠ y.toNat := fun h => hxy (UInt8.toNat_inj.1 h)
      by_cases hx : x = 0
      · subst hx
        have hy : y ≠ 0 := fun h => hxy h.symm
        have := pos_of_ne hy
        rw [if_pos rfl, if_neg hy, if_pos (by simpa using this)]
        show cmpB (0 :: 255 :: (keyB a ++ 0 :: 1 :: u)) (y :: (keyB b ++ 0 :: 1 :: v)) = _
        rw [cmpB_cons, if_pos (by simpa using this)]
      · have hx0 := pos_of_ne hx
        rw [if_neg hx]
        by_cases hy : y = 0
        · subst hy
          rw [if_pos rfl, if_neg (by simp), if_pos (by simpa using hx0)]
          show cmpB (x :: (keyB a ++ 0 :: 1 :: u)) (0 :: 255 :: (keyB b ++ 0 :: 1 :: v)) = _
          rw [cmpB_cons, if_neg (by simp), if_pos (by simpa using hx0)]
        · rw [if_neg hy]
          show cmpB (x :: (keyB a ++ 0 :: 1 :: u)) (y :: (keyB b ++ 0 :: 1 :: v)) = _
          rw [cmpB_cons]
          by_cases h1 : x.toNat < y.toNat
          · rw [if_pos h1, if_pos h1]
          · rw [if_neg h1, if_neg h1, if_pos (by omega), if_pos (by omega)]
theorem beB8_cmp (p q : Nat) (hp : p < U64) (hq : q < U64) : cmpB (beB p 8) (beB q 8) = if p < q then -1 else if q < p then 1 else 0 := by
  have h8 : (256 : Nat) ^ 8 = U64 := by unfold U64; decide
  rw [cmpB_deB _ _ (by rw [beB_length, beB_length]), deB_beB 8 p (by rw [h8]; exact hp), deB_beB 8 q (by rw [h8]; exact hq)]
theorem keyPut_eq (l : List UInt8) (t : Nat) : keyPut l t = keyB l ++ 0 :: 1 :: beB (18446744073709551615 - t) 8 := by simp [keyPut]
theorem keyPut_cmp (a b : List UInt8) (x y : Nat) (hx : x < U64) (hy : y < U64) : cmpB (keyPut a x) (keyPut b y) = if a = b then (if y < x then -1 else if x < y then 1 else 0) else cmpB a b := by
  rw [keyPut_eq, keyPut_eq, key_cmp, beB8_cmp _ _ (by unfold U64; omega) (by unfold U64; omega)]
  unfold U64 at hx hy
  by_cases h : a = b
  · rw [if_pos h, if_pos h]
    by_cases h1 : y < x
    · rw [if_pos h1, if_pos (by omega)]
    · rw [if_neg h1, if_neg (by omega)]
      by_cases h2 : x < y
      · rw [if_pos h2, if_pos (by omega)]
      · rw [if_neg h2, if_neg (by omega)]
  · rw [if_neg h, if_neg h]

/-! ### Strings in order -/
theorem less_irr (l : List UInt8) : Op.bytesLess l l = false := by rw [cmpB_less, cmpB_self]; rfl
theorem less_cons (x y : UInt8) (l m : List UInt8) : Op.bytesLess (x :: l) (y :: m) = if x.toNat < y.toNat then true else if y.toNat < x.toNat then false else Op.bytesLess l m := by
  rw [cmpB_less, cmpB_less, cmpB_cons]
  split
  · rfl
  · split <;> rfl
theorem less_nil (l : List UInt8) : Op.bytesLess l [] = false := by
  rw [cmpB_less]
  cases l <;> rw [cmpB] <;> rfl
theorem less_nil_cons (y : UInt8) (m : List UInt8) : Op.bytesLess [] (y :: m) = true := by rw [cmpB_less, cmpB]; rfl
theorem less_pre (c l m : List UInt8) : Op.bytesLess (c ++ l) (c ++ m) = Op.bytesLess l m := by rw [cmpB_less, cmpB_less, cmpB_pre]
theorem less_snoc (l : List UInt8) : Op.bytesLess l (l ++ [0]) = true := by
  have := less_pre l [] [0]
  rw [List.append_nil] at this
  rw [this, less_nil_cons]
theorem less_next : ∀ (l m : List UInt8), Op.bytesLess l m = true → Op.bytesLess m (l ++ [0]) = false
  | l, [], h => by rw [less_nil] at h; cases h
  | [], y :: m, _ => by
    show Op.bytesLess (y :: m) [0] = false
    rw [less_cons, if_neg (by simp), less_nil]
    split <;> rfl
  | x :: l, y :: m, h => by
    rw [less_cons] at h
    show Op.bytesLess (y :: m) (x :: (l ++ [0])) = false
    rw [less_cons]
    by_cases h1 : x.toNat < y.toNat
    · rw [if_neg (by omega), if_pos h1]
    · rw [if_neg h1] at h
      by_cases h2 : y.toNat < x.toNat
      · rw [if_pos h2] at h; cases h
      · rw [if_neg h2] at h
        rw [if_neg h2, if_neg h1]
        exact less_next l m h
theorem less_cases (l m : List UInt8) : (Op.bytesLess l m = true ∧ Op.bytesLess m l = false ∧ (l == m) = false ∧ (m == l) = false ∧ cmpB l m = -1) ∨ l = m ∨ (Op.bytesLess m l = true ∧ Op.bytesLess l m = false ∧ (l == m) = false ∧ (m == l) = false ∧ cmpB l m = 1) := by
  have ha := cmpB_anti l m
  rcases cmpB_rng l m with h | h | h
  · left
    have hne : l ≠ m := by rintro rfl; rw [cmpB_self] at h; omega
    refine ⟨by rw [cmpB_less, h]; rfl, by rw [cmpB_less, ha, h]; rfl, by simpa using hne, by simpa using fun h' => hne h'.symm, h⟩
  · right; left; exact cmpB_eq l m h
  · right; right
    have hne : l ≠ m := by rintro rfl; rw [cmpB_self] at h; omega
    refine ⟨by rw [cmpB_less, ha, h]; rfl, by rw [cmpB_less, h]; rfl, by simpa using hne, by simpa using fun h' => hne h'.symm, h⟩
theorem less_asym {l m : List UInt8} (h : Op.bytesLess l m = true) : Op.bytesLess m l = false ∧ (m == l) = false ∧ (l == m) = false := by
  rcases less_cases l m with h1 | rfl | h1
  · exact ⟨h1.2.1, h1.2.2.2.1, h1.2.2.1⟩
  · rw [less_irr] at h; cases h
  · rw [h1.2.1] at h; cases h
theorem pre_cons (x y : UInt8) (l m : List UInt8) : (x :: l).isPrefixOf (y :: m) = ((x == y) && l.isPrefixOf m) := rfl
/-- What begins with a prefix of bytes 255 alone. -/
theorem rep_pre : ∀ (k : Nat) (m : List UInt8), (!Op.bytesLess m (List.replicate k 255)) = (List.replicate k (255 : UInt8)).isPrefixOf m
  | 0, m => by rw [List.replicate_zero, less_nil]; simp
  | k + 1, [] => by rw [List.replicate_succ, less_nil_cons]; rfl
  | k + 1, y :: m => by
    have hy := y.toNat_lt
    rw [List.replicate_succ, less_cons, pre_cons]
    by_cases h : y = 255
    · subst h
      rw [if_neg (by simp), if_neg (by simp), rep_pre k m]
      simp
    · have hne : y.toNat ≠ 255 := fun h' => h (UInt8.toNat_inj.1 h')
      have e : (255 : UInt8).toNat = 255 := rfl
      rw [if_pos (by omega)]
      have : ((255 : UInt8) == y) = false := by rw [beq_eq_false_iff_ne]; exact fun h' => h h'.symm
      rw [this]; rfl
theorem range_pre (k : Nat) (b : UInt8) (hb : b.toNat ≤ 254) : ∀ (p m : List UInt8), ((!Op.bytesLess m (p ++ [b] ++ List.replicate k 255)) && Op.bytesLess m (p ++ [b + 1])) = (p ++ [b] ++ List.replicate k (255 : UInt8)).isPrefixOf m
  | [], [] => by
    simp only [List.nil_append, List.cons_append]
    rw [less_nil_cons, less_nil_cons]; rfl
  | [], y :: m => by
    have hy := y.toNat_lt
    have hb1 : (b + 1).toNat = b.toNat + 1 := by rw [UInt8.toNat_add]; simp; omega
    show ((!Op.bytesLess (y :: m) (b :: List.replicate k 255)) && Op.bytesLess (y :: m) [b + 1]) = (b :: List.replicate k 255).isPrefixOf (y :: m)
    rw [less_cons, less_cons, less_nil, pre_cons, hb1]
    by_cases h : b = y
    · subst h
      rw [if_neg (by omega), if_neg (by omega), if_pos (by omega), rep_pre k m]
      simp
    · have hne : b.toNat ≠ y.toNat := fun h' => h (UInt8.toNat_inj.1 h')
      have e : (b == y) = false := by rw [beq_eq_false_iff_ne]; exact h
      rw [e]
      by_cases h1 : y.toNat < b.toNat
      · rw [if_pos h1]; rfl
      · rw [if_neg h1, if_pos (by omega), if_neg (by omega)]
        by_cases h2 : b.toNat + 1 < y.toNat
        · rw [if_pos h2]; rfl
        · rw [if_neg h2]; rfl
  | x :: p, [] => by
    show ((!Op.bytesLess [] (x :: (p ++ [b] ++ List.replicate k 255))) && Op.bytesLess [] (x :: (p ++ [b + 1]))) = _
    rw [less_nil_cons]; rfl
  | x :: p, y :: m => by
    show ((!Op.bytesLess (y :: m) (x :: (p ++ [b] ++ List.replicate k 255))) && Op.bytesLess (y :: m) (x :: (p ++ [b + 1]))) = (x :: (p ++ [b] ++ List.replicate k 255)).isPrefixOf (y :: m)
    rw [less_cons, less_cons, pre_cons]
    by_cases h : x = y
    · subst h
      rw [if_neg (by omega), if_neg (by omega), if_neg (by omega), if_neg (by omega), range_pre k b hb p m]
      simp
    · have hne : x.toNat ≠ y.toNat := fun h' => h (UInt8.toNat_inj.1 h')
      have e : (x == y) = false := by rw [beq_eq_false_iff_ne]; exact h
      rw [e]
      by_cases h1 : y.toNat < x.toNat
      · rw [if_pos h1]; rfl
      · rw [if_neg h1, if_neg h1, if_pos (by omega), if_pos (by omega)]; rfl
theorem end_more (k : Nat) (b : UInt8) (hb : b.toNat ≤ 254) (p : List UInt8) : Op.bytesLess (p ++ [b] ++ List.replicate k 255) (p ++ [b + 1]) = true := by
  have hb1 : (b + 1).toNat = b.toNat + 1 := by rw [UInt8.toNat_add]; simp; omega
  rw [List.append_assoc, less_pre]
  show Op.bytesLess (b :: List.replicate k 255) [b + 1] = true
  rw [less_cons, hb1, if_pos (by omega)]
end Go.Proofs.YtdmighkfmbcbmaaDoor
