/- Keys as bytes: plain functions on lists of bytes and what is true of them. No program is named here. -/
import Derived.Test.YtdmighkfmbcbmaaDoorNumP
namespace Go.Proofs.YtdmighkfmbcbmaaDoor
open Go Go.RowKit
set_option linter.unusedVariables false

/-- A key's bytes: behind each 0 stands 255. -/
def keyB (l : List UInt8) : List UInt8 := l.flatMap fun b => if b = 0 then [0, 255] else [b]
theorem keyB_nil : keyB [] = [] := rfl
theorem keyB_cons (b : UInt8) (l : List UInt8) : keyB (b :: l) = (if b = 0 then [0, 255] else [b]) ++ keyB l := rfl
theorem keyB_append (l m : List UInt8) : keyB (l ++ m) = keyB l ++ keyB m := by simp [keyB]
theorem keyB_snoc0 (l : List UInt8) : keyB (l ++ [0]) = keyB l ++ [0, 255] := by rw [keyB_append]; rfl
theorem keyB_snoc (l : List UInt8) {b : UInt8} (h : b ≠ 0) : keyB (l ++ [b]) = keyB l ++ [b] := by rw [keyB_append, keyB_cons, if_neg h]; rfl
theorem keyB_len (l : List UInt8) : l.length ≤ (keyB l).length ∧ (keyB l).length ≤ 2 * l.length := by
  induction l with
  | nil => simp [keyB]
  | cons b l ih =>
    rw [keyB_cons]
    by_cases h : b = 0
    · rw [if_pos h]; simp; omega
    · rw [if_neg h]; simp; omega

/-- What bytes are a key's. -/
def unkey : List UInt8 → Option (List UInt8)
  | [] => some []
  | [b] => if b = 0 then none else some [b]
  | b :: c :: r => if b = 0 then (if c = 255 then (unkey r).map (0 :: ·) else none) else (unkey (c :: r)).map (b :: ·)
theorem unkey_nil : unkey [] = some [] := by rw [unkey]
theorem unkey_zero (c : UInt8) (r : List UInt8) : unkey (0 :: c :: r) = if c = 255 then (unkey r).map (0 :: ·) else none := by rw [unkey, if_pos rfl]
theorem unkey_zero1 : unkey [0] = none := by rw [unkey, if_pos rfl]
theorem unkey_some {b : UInt8} (h : b ≠ 0) (r : List UInt8) : unkey (b :: r) = (unkey r).map (b :: ·) := by
  cases r with
  | nil => rw [unkey_nil]; simp [unkey, h]
  | cons c r => rw [unkey, if_neg h]
theorem unkey_keyB : ∀ l, unkey (keyB l) = some l
  | [] => unkey_nil
  | b :: l => by
    rw [keyB_cons]
    by_cases h : b = 0
    · subst h; rw [if_pos rfl]; show unkey (0 :: 255 :: keyB l) = _; rw [unkey_zero, if_pos rfl, unkey_keyB l]; rfl
    · rw [if_neg h]; show unkey (b :: keyB l) = _; rw [unkey_some h, unkey_keyB l]; rfl
theorem keyB_unkey : ∀ (n : Nat) (s k : List UInt8), s.length ≤ n → unkey s = some k → s = keyB k
  | _, [], k, _, h => by rw [unkey_nil] at h; cases h; rfl
  | 0, _ :: _, k, hn, h => by simp at hn
  | n + 1, b :: r, k, hn, h => by
    have hr : r.length ≤ n := by simpa using hn
    by_cases hb : b = 0
    · subst hb
      cases r with
      | nil => rw [unkey_zero1] at h; cases h
      | cons c r' =>
        rw [unkey_zero] at h
        by_cases hc : c = 255
        · rw [if_pos hc, Option.map_eq_some_iff] at h
          obtain ⟨k', h1, rfl⟩ := h
          rw [keyB_unkey n r' k' (by simp at hr; omega) h1, keyB_cons, if_pos rfl, hc]
          rfl
        · rw [if_neg hc] at h; cases h
    · rw [unkey_some hb, Option.map_eq_some_iff] at h
      obtain ⟨k', h1, rfl⟩ := h
      rw [keyB_cons, if_neg hb, keyB_unkey n r k' hr h1]
      rfl

/-- A key's bytes at a timestamp. -/
def keyPut (k : List UInt8) (t : Nat) : List UInt8 := keyB k ++ [0, 1] ++ beB (18446744073709551615 - t) 8
/-- The key and what stands for the timestamp. -/
def keyGet (s : List UInt8) : Option (List UInt8 × Nat) :=
  if s.length < 10 then none else if (s.drop (s.length - 10)).take 2 = [0, 1] then
    match unkey (s.take (s.length - 10)) with
    | some k => if k.length ≤ 64 then some (k, deB (s.drop (s.length - 8))) else none
    | none => none
  else none
/-- The document's way: from the first byte on; k is what was read. -/
def keyRef : List UInt8 → List UInt8 → Option (List UInt8 × Nat)
  | [], k => none
  | [b], k => none
  | b :: c :: r, k => if b = 0 then (if c = 255 then keyRef r (k ++ [0]) else if c = 1 ∧ r.length = 8 ∧ k.length ≤ 64 then some (k, deB r) else none) else keyRef (c :: r) (k ++ [b])
theorem keyRef_nil (k : List UInt8) : keyRef [] k = none := by rw [keyRef]
theorem keyRef_one (b : UInt8) (k : List UInt8) : keyRef [b] k = none := by rw [keyRef]
theorem keyRef_zero (c : UInt8) (r k : List UInt8) : keyRef (0 :: c :: r) k = if c = 255 then keyRef r (k ++ [0]) else if c = 1 ∧ r.length = 8 ∧ k.length ≤ 64 then some (k, deB r) else none := by rw [keyRef, if_pos rfl]
theorem keyRef_some {b : UInt8} (h : b ≠ 0) (r k : List UInt8) : keyRef (b :: r) k = keyRef r (k ++ [b]) := by
  cases r with
  | nil => rw [keyRef_one, keyRef_nil]
  | cons c r => rw [keyRef, if_neg h]
theorem keyRef_short : ∀ (n : Nat) (s k : List UInt8), s.length ≤ n → s.length < 10 → keyRef s k = none
  | _, [], k, _, _ => keyRef_nil k
  | 0, _ :: _, k, hn, _ => by simp at hn
  | n + 1, b :: r, k, hn, h => by
    have hr : r.length ≤ n := by simpa using hn
    have hr2 : r.length + 1 < 10 := by simpa using h
    by_cases hb : b = 0
    · subst hb
      cases r with
      | nil => exact keyRef_one _ _
      | cons c r' =>
        have h3 : r'.length + 2 < 10 := by simpa using hr2
        rw [keyRef_zero]
        by_cases hc : c = 255
        · rw [if_pos hc]; exact keyRef_short n r' _ (by simp at hr; omega) (by omega)
        · rw [if_neg hc, if_neg (by omega)]
    · rw [keyRef_some hb]; exact keyRef_short n r _ hr (by omega)

def keyFin (k s : List UInt8) : Option (List UInt8) → Option (List UInt8 × Nat)
  | some j => if (k ++ j).length ≤ 64 then some (k ++ j, deB (s.drop (s.length - 8))) else none
  | none => none
def keyGetK (s k : List UInt8) : Option (List UInt8 × Nat) :=
  if s.length < 10 then none else if (s.drop (s.length - 10)).take 2 = [0, 1] then keyFin k s (unkey (s.take (s.length - 10))) else none
theorem keyGetK_cons {b : UInt8} (h : b ≠ 0) (r k : List UInt8) (hr : 10 ≤ r.length) : keyGetK (b :: r) k = keyGetK r (k ++ [b]) := by
  unfold keyGetK
  have hl : (b :: r).length = r.length + 1 := rfl
  have e1 : (b :: r).length - 10 = (r.length - 10) + 1 := by omega
  have e2 : (b :: r).length - 8 = (r.length - 8) + 1 := by omega
  rw [e1, List.drop_succ_cons, List.take_succ_cons, unkey_some h, if_neg (show ¬ (b :: r).length < 10 by omega), if_neg (show ¬ r.length < 10 by omega)]
  congr 1
  cases unkey (r.take (r.length - 10)) with
  | none => rfl
  | some j => simp only [Option.map_some, keyFin]; rw [e2, List.drop_succ_cons]; simp
theorem keyGetK_zero (r k : List UInt8) (hr : 10 ≤ r.length) : keyGetK (0 :: 255 :: r) k = keyGetK r (k ++ [0]) := by
  unfold keyGetK
  have hl : (0 :: 255 :: r : List UInt8).length = r.length + 2 := rfl
  have e1 : (0 :: 255 :: r : List UInt8).length - 10 = (r.length - 10) + 1 + 1 := by omega
  have e2 : (0 :: 255 :: r : List UInt8).length - 8 = (r.length - 8) + 1 + 1 := by omega
  rw [e1, List.drop_succ_cons, List.drop_succ_cons, List.take_succ_cons, List.take_succ_cons, unkey_zero, if_pos rfl, if_neg (show ¬ (0 :: 255 :: r : List UInt8).length < 10 by omega), if_neg (show ¬ r.length < 10 by omega)]
  congr 1
  cases unkey (r.take (r.length - 10)) with
  | none => rfl
  | some j => simp only [Option.map_some, keyFin]; rw [e2, List.drop_succ_cons, List.drop_succ_cons]; simp
theorem keyRef_eq : ∀ (n : Nat) (s k : List UInt8), s.length ≤ n → keyRef s k = keyGetK s k
  | 0, s, k, hn => by rw [keyRef_short 0 s k hn (by omega)]; unfold keyGetK; rw [if_pos (by omega)]
  | n + 1, s, k, hn => by
    by_cases hs : s.length < 10
    · rw [keyRef_short _ s k hn hs]; unfold keyGetK; rw [if_pos hs]
    · cases s with
      | nil => simp at hs
      | cons b r =>
        have hl : (b :: r).length = r.length + 1 := rfl
        have hr : r.length ≤ n := by omega
        have hr9 : 9 ≤ r.length := by omega
        by_cases hb : b = 0
        · subst hb
          cases r with
          | nil => simp at hr9
          | cons c r' =>
            have hl' : (c :: r').length = r'.length + 1 := rfl
            rw [keyRef_zero]
            by_cases hc : c = 255
            · subst hc
              rw [if_pos rfl]
              by_cases h10 : 10 ≤ r'.length
              · rw [keyGetK_zero r' k h10]; exact keyRef_eq n r' _ (by omega)
              · rw [keyRef_short _ r' _ (Nat.le_refl _) (by omega)]
                unfold keyGetK
                rw [if_neg hs, if_neg]
                have : r'.length = 8 ∨ r'.length = 9 := by omega
                rcases this with h | h <;> simp [h]
            · rw [if_neg hc]
              by_cases h8 : r'.length = 8
              · unfold keyGetK
                rw [if_neg hs]
                have e0 : (0 :: c :: r' : List UInt8).length - 10 = 0 := by omega
                rw [e0]
                by_cases h1 : c = 1
                · subst h1
                  have e2 : (0 :: 1 :: r' : List UInt8).length - 8 = 0 + 1 + 1 := by omega
                  rw [if_pos (show List.take 2 (List.drop 0 (0 :: 1 :: r')) = [0, 1] from rfl), List.take_zero, unkey_nil]
                  simp only [keyFin, e2, List.drop_succ_cons, List.drop_zero, List.append_nil]
                  by_cases hk : k.length ≤ 64
                  · rw [if_pos ⟨trivial, h8, hk⟩, if_pos hk]
                  · rw [if_neg (fun h => hk h.2.2), if_neg hk]
                · rw [if_neg (fun h => h1 h.1), if_neg]
                  simp [h1]
              · rw [if_neg (fun h => h8 h.2.1)]
                unfold keyGetK
                rw [if_neg hs]
                split
                · have : (0 :: c :: r' : List UInt8).length - 10 = (r'.length - 9) + 1 := by omega
                  rw [this, List.take_succ_cons]
                  cases hn9 : r'.length - 9 with
                  | zero => rw [List.take_zero, unkey_zero1]; rfl
                  | succ m => rw [List.take_succ_cons, unkey_zero, if_neg hc]; rfl
                · rfl
        · rw [keyRef_some hb]
          by_cases h10 : 10 ≤ r.length
          · rw [keyGetK_cons hb r k h10]; exact keyRef_eq n r _ hr
          · have h9 : r.length = 9 := by omega
            rw [keyRef_short _ r _ (Nat.le_refl _) (by omega)]
            unfold keyGetK
            rw [if_neg hs, if_neg]
            simp [h9, hb]
theorem keyRef_get (s : List UInt8) : keyRef s [] = keyGet s := by
  rw [keyRef_eq s.length s [] (Nat.le_refl _)]
  unfold keyGetK keyGet
  split
  · rfl
  · split
    · cases unkey (s.take (s.length - 10)) <;> rfl
    · rfl

theorem keyGet_put (k : List UInt8) (t : Nat) (hk : k.length ≤ 64) (ht : t < U64) : keyGet (keyPut k t) = some (k, 18446744073709551615 - t) := by
  have hl : (keyPut k t).length = (keyB k).length + 10 := by simp [keyPut, beB_length]
  have e1 : (keyPut k t).drop (keyB k).length = [0, 1] ++ beB (18446744073709551615 - t) 8 := by
    unfold keyPut; rw [List.append_assoc, List.drop_left]
  have e2 : (keyPut k t).take (keyB k).length = keyB k := by
    unfold keyPut; rw [List.append_assoc, List.take_left]
  have e3 : (keyPut k t).drop ((keyB k).length + 2) = beB (18446744073709551615 - t) 8 := by
    rw [← List.drop_drop, e1]; rfl
  unfold keyGet
  rw [if_neg (by omega), hl, Nat.add_sub_cancel, e1, e2, show (keyB k).length + 10 - 8 = (keyB k).length + 2 by omega, e3, if_pos (show List.take 2 ([0, 1] ++ beB (18446744073709551615 - t) 8) = [0, 1] from rfl), unkey_keyB]
  simp only
  rw [if_pos hk, deB_beB 8 _ (by unfold U64 at ht; omega)]
theorem keyPut_get {s k : List UInt8} {t : Nat} (h : keyGet s = some (k, t)) : s = keyB k ++ [0, 1] ++ beB t 8 ∧ k.length ≤ 64 ∧ t < U64 := by
  unfold keyGet at h
  by_cases h1 : s.length < 10
  · rw [if_pos h1] at h; cases h
  · rw [if_neg h1] at h
    by_cases h2 : (s.drop (s.length - 10)).take 2 = [0, 1]
    · rw [if_pos h2] at h
      cases hu : unkey (s.take (s.length - 10)) with
      | none => rw [hu] at h; cases h
      | some j =>
        rw [hu] at h
        simp only at h
        by_cases h3 : j.length ≤ 64
        · rw [if_pos h3] at h
          injection h with h
          injection h with ha hb
          subst ha hb
          have hl : (s.drop (s.length - 8)).length = 8 := by rw [List.length_drop]; omega
          have e : beB (deB (s.drop (s.length - 8))) 8 = s.drop (s.length - 8) := by
            have := beB_deB (s.drop (s.length - 8))
            rwa [hl] at this
          refine ⟨?_, h3, ?_⟩
          · rw [e, ← keyB_unkey _ _ _ (Nat.le_refl _) hu, ← h2]
            have : s.drop (s.length - 8) = (s.drop (s.length - 10)).drop 2 := by rw [List.drop_drop]; congr 1; omega
            rw [this, List.append_assoc, List.take_append_drop, List.take_append_drop]
          · have := deB_lt (s.drop (s.length - 8))
            rw [hl] at this
            unfold U64
            exact Nat.lt_of_lt_of_le this (by decide)
        · rw [if_neg h3] at h; cases h
    · rw [if_neg h2] at h; cases h
end Go.Proofs.YtdmighkfmbcbmaaDoor
