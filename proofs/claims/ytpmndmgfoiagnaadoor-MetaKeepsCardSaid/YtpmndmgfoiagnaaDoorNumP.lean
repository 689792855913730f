/- Numbers as bytes: plain functions on lists of bytes and what is true of them. No program is named here. -/
import Derived.Test.YtpmndmgfoiagnaaDoorBase
namespace Go.Proofs.YtpmndmgfoiagnaaDoor
open Go Go.RowKit
set_option linter.unusedVariables false

/-! ### As few bytes as it needs -/
/-- A number in as few bytes as it needs. -/
def varB (x : Nat) : List UInt8 := if x < 128 then [UInt8.ofNat x] else UInt8.ofNat (x % 128 + 128) :: varB (x / 128)
termination_by x
theorem varB_lo {y : Nat} (h : y < 128) : varB y = [UInt8.ofNat y] := by rw [varB, if_pos h]
theorem varB_hi {y : Nat} (h : ¬ y < 128) : varB y = UInt8.ofNat (y % 128 + 128) :: varB (y / 128) := by rw [varB, if_neg h]
theorem varB_len (x : Nat) : 1 ≤ (varB x).length := by
  unfold varB; split <;> simp
theorem varB_le : ∀ (n x : Nat), x < 128 ^ (n + 1) → (varB x).length ≤ n + 1
  | 0, x, h => by rw [varB_lo (by simpa using h)]; simp
  | n + 1, x, h => by
    by_cases hx : x < 128
    · rw [varB_lo hx]; simp
    · rw [varB_hi hx, List.length_cons]
      have := varB_le n (x / 128) (by rw [Nat.pow_succ] at h; exact Nat.div_lt_of_lt_mul (by omega))
      omega
theorem varB_le10 {x : Nat} (h : x < U64) : (varB x).length ≤ 10 := varB_le 9 x (Nat.lt_of_lt_of_le h (by unfold U64; decide))

theorem or128 : ∀ a, a < 256 → a ||| 128 = a % 128 + 128 := by decide +kernel
theorem bits_or128 (y : Nat) : bits .or .u8 ((y : Int) % 256) 128 = (y : Int) % 128 + 128 := by
  have h := u8_or_nat (y % 256) 128 (by omega) (by omega)
  rw [or128 _ (by omega)] at h
  have e : (((y % 256 : Nat)) : Int) = (y : Int) % 256 := by omega
  rw [e] at h
  exact h.trans (by omega)

/-- How many bytes are still to come behind the first one. -/
def varLeft (y : Nat) : Nat := if y = 0 then 0 else (varB y).length
theorem varLeft_step {y : Nat} (h : 0 < y) : varLeft y = varLeft (y / 128) + 1 := by
  unfold varLeft
  rw [if_neg (by omega)]
  by_cases hy : y < 128
  · rw [varB_lo hy, if_pos (by omega)]; rfl
  · rw [varB_hi hy, if_neg (by omega)]; rfl
theorem varLeft_first (x : Nat) : 1 + varLeft (x / 128) = (varB x).length := by
  unfold varLeft
  by_cases hx : x < 128
  · rw [varB_lo hx, if_pos (by omega)]; rfl
  · rw [varB_hi hx, if_neg (by omega), List.length_cons]; omega

/-! ### Reading such a number -/
/-- The number that stands first, read from byte i on, v being what the bytes ahead gave: the number and how many bytes it has, or an error's number. -/
def getV : Nat → Nat → List UInt8 → Except Nat (Nat × Nat)
  | _, _, [] => .error 10
  | i, v, b :: r =>
    if (i = 9 ∧ 1 < b.toNat) ∨ (0 < i ∧ b.toNat = 0) then .error 12
    else if b.toNat < 128 then .ok (v + b.toNat * 128 ^ i, i + 1)
    else getV (i + 1) (v + (b.toNat % 128) * 128 ^ i) r
def getVarB (l : List UInt8) : Except Nat (Nat × Nat) := getV 0 0 l

/-- What num.GetVar gives back of it. -/
def valOf : Except Nat (Nat × Nat) → Nat | .ok (v, _) => v | .error _ => 0
def lenOf : Except Nat (Nat × Nat) → Nat | .ok (_, n) => n | .error _ => 0
def errOf : Except Nat (Nat × Nat) → Nat | .ok _ => 0 | .error e => e

theorem getV_bound : ∀ (l : List UInt8) (i v : Nat), i ≤ 9 → v < 128 ^ i → ∀ x n, getV i v l = .ok (x, n) → x < U64 ∧ i < n ∧ n ≤ i + l.length
  | [], _, _, _, _, _, _, h => by simp [getV] at h
  | b :: r, i, v, hi, hv, x, n, h => by
    rw [getV] at h
    split at h
    · cases h
    · rename_i hc
      split at h
      · rename_i hb
        simp only [Except.ok.injEq, Prod.mk.injEq] at h
        obtain ⟨rfl, rfl⟩ := h
        refine ⟨?_, by omega, by simp⟩
        by_cases h9 : i = 9
        · subst h9
          have : b.toNat ≤ 1 := by omega
          have h1 : b.toNat * 128 ^ 9 ≤ 1 * 128 ^ 9 := Nat.mul_le_mul_right _ this
          unfold U64
          omega
        · have h1 : b.toNat * 128 ^ i ≤ 127 * 128 ^ i := Nat.mul_le_mul_right _ (by omega)
          have h2 : 128 ^ i ≤ 128 ^ 8 := Nat.pow_le_pow_right (by omega) (by omega)
          unfold U64
          omega
      · rename_i hb
        by_cases h9 : i = 9
        · subst h9; omega
        · have h1 : (b.toNat % 128) * 128 ^ i ≤ 127 * 128 ^ i := Nat.mul_le_mul_right _ (by omega)
          have := getV_bound r (i + 1) (v + (b.toNat % 128) * 128 ^ i) (by omega) (by rw [Nat.pow_succ]; omega) x n h
          simp
          omega
theorem getVarB_bound {l : List UInt8} {x n : Nat} (h : getVarB l = .ok (x, n)) : x < U64 ∧ 0 < n ∧ n ≤ l.length := by
  have := getV_bound l 0 0 (by omega) (by simp) x n h
  omega

/-- '|' of bits that stand apart is '+'. -/
theorem shl_or (a x i : Nat) (ha : a < 128 ^ i) (hx : x * 128 ^ i < U64) (ha' : a < U64) : bits .or .u64 (a : Int) (IntKind.u64.wrap ((x : Int) * 2 ^ (7 * i))) = ((a + x * 128 ^ i : Nat) : Int) := by
  have e : (2 : Nat) ^ (7 * i) = 128 ^ i := by rw [Nat.pow_mul]
  have e1 : ((x : Int) * 2 ^ (7 * i)) = ((x * 128 ^ i : Nat) : Int) := by
    rw [Int.natCast_mul, ← e, Int.natCast_pow]; rfl
  have e2 : IntKind.u64.wrap ((x : Int) * 2 ^ (7 * i)) = ((x * 128 ^ i : Nat) : Int) := by
    rw [e1]
    unfold U64 at hx
    simp only [IntKind.wrap, IntKind.bits, IntKind.signed]
    generalize x * 128 ^ i = q at *
    simp
    omega
  rw [e2]
  unfold U64 at hx ha'
  rw [u64_or_nat _ _ ha' hx, Nat.or_comm, nat_join (7 * i) (x * 128 ^ i) a (by rw [e]; exact Nat.mul_mod_left _ _) (by rw [e]; exact ha), Nat.add_comm]

theorem and127 (x : Nat) (hx : x < 256) : bits .and .u8 (x : Int) 127 = ((x % 128 : Nat) : Int) := by
  have h := u8_and_nat x 127 hx (by omega)
  rw [nat_mask7] at h
  exact h

/-- What was written is read again, whatever stands behind. -/
theorem getV_varB : ∀ (k x : Nat) (s : List UInt8) (i v : Nat), x < 128 ^ (k + 1) → i + k ≤ 9 → (i + k = 9 → x < 128 ^ k * 2) → (0 < i → 0 < x) →
    getV i v (varB x ++ s) = .ok (v + x * 128 ^ i, i + (varB x).length)
  | 0, x, s, i, v, hx, hi, h9, h0 => by
    have hx' : x < 128 := by simpa using hx
    rw [varB_lo hx']
    have hb : (UInt8.ofNat x).toNat = x := by simp; omega
    simp only [List.cons_append, List.nil_append, getV, hb, List.length_singleton]
    rw [if_neg (by intro hh; rcases hh with ⟨h1, h2⟩ | ⟨h1, h2⟩
                   · have := h9 (by omega); simp at this; omega
                   · have := h0 h1; omega), if_pos hx']
  | k + 1, x, s, i, v, hx, hi, h9, h0 => by
    by_cases hx' : x < 128
    · rw [varB_lo hx']
      have hb : (UInt8.ofNat x).toNat = x := by simp; omega
      simp only [List.cons_append, List.nil_append, getV, hb, List.length_singleton]
      rw [if_neg (by omega), if_pos hx']
    · rw [varB_hi hx']
      have hb : (UInt8.ofNat (x % 128 + 128)).toNat = x % 128 + 128 := by simp; omega
      simp only [List.cons_append, getV, hb, List.length_cons]
      rw [if_neg (by omega), if_neg (by omega)]
      have e : (x % 128 + 128) % 128 = x % 128 := by omega
      rw [e]
      have hd : x / 128 < 128 ^ (k + 1) := by rw [Nat.pow_succ] at hx; exact Nat.div_lt_of_lt_mul (by omega)
      rw [getV_varB k (x / 128) s (i + 1) _ hd (by omega) (fun h => by
        have := h9 (by omega)
        rw [Nat.pow_succ] at this
        exact Nat.div_lt_of_lt_mul (by omega)) (fun _ => by omega)]
      have e2 : x % 128 * 128 ^ i + x / 128 * 128 ^ (i + 1) = x * 128 ^ i := by
        rw [Nat.pow_succ, Nat.mul_comm (128 ^ i) 128, ← Nat.mul_assoc, ← Nat.add_mul]
        congr 1
        omega
      congr 2
      · omega
      · omega
theorem getVarB_varB {x : Nat} (hx : x < U64) (s : List UInt8) : getVarB (varB x ++ s) = .ok (x, (varB x).length) := by
  have h := getV_varB 9 x s 0 0 (Nat.lt_of_lt_of_le hx (by unfold U64; decide)) (by omega) (fun _ => Nat.lt_of_lt_of_le hx (by unfold U64; decide)) (fun h => by omega)
  unfold getVarB
  rw [h]; simp

/-- What is read is the one way in which the number is written. -/
theorem getV_only : ∀ (l : List UInt8) (i v x n : Nat), getV i v l = .ok (x, n) → ∃ y s, x = v + y * 128 ^ i ∧ l = varB y ++ s ∧ n = i + (varB y).length ∧ (0 < i → 0 < y)
  | [], _, _, _, _, h => by simp [getV] at h
  | b :: r, i, v, x, n, h => by
    rw [getV] at h
    split at h
    · cases h
    · rename_i hc
      split at h
      · rename_i hb
        simp only [Except.ok.injEq, Prod.mk.injEq] at h
        obtain ⟨rfl, rfl⟩ := h
        exact ⟨b.toNat, r, rfl, by rw [varB_lo hb]; simp, by rw [varB_lo hb]; simp, fun hi => by omega⟩
      · rename_i hb
        obtain ⟨y, s, hx, hl, hn, hy⟩ := getV_only r (i + 1) _ x n h
        have hy := hy (by omega)
        have hb2 : b.toNat < 256 := b.toNat_lt
        have h1 : ¬ b.toNat % 128 + 128 * y < 128 := by omega
        refine ⟨b.toNat % 128 + 128 * y, s, ?_, ?_, ?_, fun _ => by omega⟩
        · rw [hx, Nat.pow_succ, Nat.add_mul, Nat.mul_comm 128 y, Nat.mul_assoc y 128, Nat.mul_comm 128 (128 ^ i)]
          omega
        · rw [varB_hi h1, show (b.toNat % 128 + 128 * y) % 128 + 128 = b.toNat from by omega, show (b.toNat % 128 + 128 * y) / 128 = y from by omega, hl]
          simp
        · rw [varB_hi h1, show (b.toNat % 128 + 128 * y) / 128 = y from by omega, hn, List.length_cons]
          omega
theorem getVarB_only {l : List UInt8} {x n : Nat} (h : getVarB l = .ok (x, n)) : l = varB x ++ l.drop n ∧ n = (varB x).length := by
  obtain ⟨y, s, hx, hl, hn, _⟩ := getV_only l 0 0 x n h
  obtain rfl : x = y := by simpa using hx
  have hn' : n = (varB x).length := by omega
  refine ⟨?_, hn'⟩
  rw [hn']
  conv => rhs; rw [hl]
  rw [List.drop_left]
  exact hl

/-! ### A number in so many bytes, the highest one first -/
def beB (v n : Nat) : List UInt8 := (List.range n).map fun k => UInt8.ofNat (v / 256 ^ (n - 1 - k))
theorem beB_length (v n : Nat) : (beB v n).length = n := by simp [beB]
/-- As the document has it: by dividing. -/
theorem beB_succ (v n : Nat) : beB v (n + 1) = beB (v / 256) n ++ [UInt8.ofNat v] := by
  unfold beB
  rw [List.range_succ, List.map_append]
  congr 1
  · apply List.map_congr_left
    intro k hk
    have hk := List.mem_range.1 hk
    rw [show n + 1 - 1 - k = (n - 1 - k) + 1 from by omega, Nat.pow_succ, Nat.mul_comm, Nat.div_div_eq_div_mul]
  · simp
theorem beB_one (v : Nat) : beB v 1 = [UInt8.ofNat v] := by simp [beB, List.range_succ]

/-- The number of bytes. -/
def deB (l : List UInt8) : Nat := l.foldl (fun v b => v * 256 + b.toNat) 0
theorem deB_foldl (l : List UInt8) : ∀ v, l.foldl (fun v b => v * 256 + b.toNat) v = v * 256 ^ l.length + deB l := by
  unfold deB
  induction l with
  | nil => intro v; simp
  | cons b r ih =>
    intro v
    rw [List.foldl_cons, ih, List.foldl_cons, ih (0 * 256 + b.toNat), List.length_cons, Nat.pow_succ, Nat.add_mul, Nat.mul_assoc, Nat.mul_comm 256 (256 ^ r.length), Nat.zero_mul, Nat.zero_add, Nat.add_assoc]
theorem deB_snoc (l : List UInt8) (b : UInt8) : deB (l ++ [b]) = deB l * 256 + b.toNat := by simp [deB]
theorem deB_cons (l : List UInt8) (b : UInt8) : deB (b :: l) = b.toNat * 256 ^ l.length + deB l := by
  have := deB_foldl l (0 * 256 + b.toNat)
  unfold deB at *
  rw [List.foldl_cons, this]
  simp
theorem deB_lt (l : List UInt8) : deB l < 256 ^ l.length := by
  induction l with
  | nil => simp [deB]
  | cons b r ih =>
    rw [deB_cons, List.length_cons, Nat.pow_succ]
    have hb : b.toNat < 256 := b.toNat_lt
    have : b.toNat * 256 ^ r.length ≤ 255 * 256 ^ r.length := Nat.mul_le_mul_right _ (by omega)
    omega
theorem deB_beB : ∀ (n v : Nat), v < 256 ^ n → deB (beB v n) = v
  | 0, v, h => by simp [beB, deB]; simp at h; omega
  | n + 1, v, h => by
    rw [beB_succ, deB_snoc, deB_beB n (v / 256) (by rw [Nat.pow_succ] at h; exact Nat.div_lt_of_lt_mul (by omega))]
    simp
    omega
theorem beB_deB (l : List UInt8) : beB (deB l) l.length = l := by
  obtain ⟨n, hn⟩ : ∃ n, n = l.length := ⟨_, rfl⟩
  induction n generalizing l with
  | zero =>
    obtain rfl := List.eq_nil_of_length_eq_zero hn.symm
    rfl
  | succ n ih =>
    obtain ⟨r, b, rfl⟩ : ∃ r b, l = r ++ [b] := ⟨l.dropLast, l.getLast (by intro h; subst h; simp at hn), (List.dropLast_concat_getLast _).symm⟩
    have hr : n = r.length := by simpa using hn
    rw [List.length_append, List.length_singleton, beB_succ, deB_snoc]
    have hb : b.toNat < 256 := b.toNat_lt
    rw [show (deB r * 256 + b.toNat) / 256 = deB r from by omega, ih r hr]
    congr 2
    apply UInt8.toNat_inj.1
    simp

/-- One byte more behind a number. -/
theorem shl8_or (a x i : Nat) (ha : a < 256 ^ i) (hi : i < 8) (hx : x < 256) : bits .or .u64 (IntKind.u64.wrap ((a : Int) * 256)) (x : Int) = ((a * 256 + x : Nat) : Int) := by
  have h1 : a * 256 < U64 := by
    have h2 : 256 ^ i ≤ 256 ^ 7 := Nat.pow_le_pow_right (by omega) (by omega)
    unfold U64
    omega
  have e : IntKind.u64.wrap ((a : Int) * 256) = ((a * 256 : Nat) : Int) := by
    unfold U64 at h1
    simp only [IntKind.wrap, IntKind.bits, IntKind.signed]
    simp
    omega
  rw [e]
  unfold U64 at h1
  rw [u64_or_nat _ _ h1 (by omega), nat_join 8 (a * 256) x (Nat.mul_mod_left _ _) (by simpa using hx)]
theorem deB_take_succ {l : List UInt8} {i : Nat} (h : i < l.length) : deB (l.take (i + 1)) = deB (l.take i) * 256 + l[i].toNat := by
  rw [List.take_succ_eq_append_getElem h, deB_snoc]
theorem deB_take_lt (l : List UInt8) (i : Nat) : deB (l.take i) < 256 ^ i :=
  Nat.lt_of_lt_of_le (deB_lt _) (Nat.pow_le_pow_right (by omega) (by simp; omega))

/-! ### Which bytes come ahead -/
def cmpB : List UInt8 → List UInt8 → Int
  | [], [] => 0
  | [], _ :: _ => -1
  | _ :: _, [] => 1
  | a :: l, b :: m => if a.toNat < b.toNat then -1 else if b.toNat < a.toNat then 1 else cmpB l m
theorem cmpB_rng : ∀ l m, cmpB l m = -1 ∨ cmpB l m = 0 ∨ cmpB l m = 1
  | [], [] => by simp [cmpB]
  | [], _ :: _ => by simp [cmpB]
  | _ :: _, [] => by simp [cmpB]
  | a :: l, b :: m => by
    unfold cmpB
    split
    · simp
    · split
      · simp
      · exact cmpB_rng l m
theorem cmpB_self : ∀ l, cmpB l l = 0
  | [] => rfl
  | a :: l => by simp [cmpB, cmpB_self l]
theorem cmpB_anti : ∀ l m, cmpB m l = - cmpB l m
  | [], [] => by simp [cmpB]
  | [], _ :: _ => by simp [cmpB]
  | _ :: _, [] => by simp [cmpB]
  | a :: l, b :: m => by
    unfold cmpB
    by_cases h : a.toNat < b.toNat
    · simp [h, Nat.lt_asymm h]
    · by_cases h2 : b.toNat < a.toNat
      · simp [h, h2]
      · simp [h, h2, cmpB_anti l m]
theorem cmpB_eq : ∀ l m, cmpB l m = 0 → l = m
  | [], [], _ => rfl
  | [], _ :: _, h => by simp [cmpB] at h
  | _ :: _, [], h => by simp [cmpB] at h
  | a :: l, b :: m, h => by
    unfold cmpB at h
    split at h
    · simp at h
    · split at h
      · simp at h
      · rw [cmpB_eq l m h, UInt8.toNat_inj.1 (by omega : a.toNat = b.toNat)]
theorem cmpB_pre : ∀ c l m, cmpB (c ++ l) (c ++ m) = cmpB l m
  | [], _, _ => rfl
  | a :: c, l, m => by simp [cmpB, cmpB_pre c l m]
theorem cmpB_less : ∀ l m, Op.bytesLess l m = decide (cmpB l m < 0)
  | [], [] => by simp [cmpB, Op.bytesLess]
  | [], _ :: _ => by simp [cmpB, Op.bytesLess]
  | _ :: _, [] => by simp [cmpB, Op.bytesLess]
  | a :: l, b :: m => by
    unfold Op.bytesLess cmpB
    by_cases h : a.toNat < b.toNat
    · have : a < b := h
      simp [this, h]
    · have h' : ¬ a < b := h
      by_cases h2 : b.toNat < a.toNat
      · have h3 : ¬ a = b := by rintro rfl; omega
        simp [h, h', h2, h3]
      · obtain rfl : a = b := UInt8.toNat_inj.1 (by omega)
        simp [h, cmpB_less l m]
/-- Numbers in the same number of bytes are ordered as they are. -/
theorem cmpB_deB : ∀ l m : List UInt8, l.length = m.length → cmpB l m = (if deB l < deB m then -1 else if deB m < deB l then 1 else 0)
  | [], [], _ => by simp [cmpB, deB]
  | [], _ :: _, h => by simp at h
  | _ :: _, [], h => by simp at h
  | a :: l, b :: m, h => by
    have h' : l.length = m.length := by simpa using h
    have hl := deB_lt l
    have hm := deB_lt m
    rw [deB_cons, deB_cons, h']
    rw [h'] at hl
    unfold cmpB
    by_cases h1 : a.toNat < b.toNat
    · have : (a.toNat + 1) * 256 ^ m.length ≤ b.toNat * 256 ^ m.length := Nat.mul_le_mul_right _ h1
      rw [Nat.add_mul] at this
      rw [if_pos h1, if_pos (by omega)]
    · rw [if_neg h1]
      by_cases h2 : b.toNat < a.toNat
      · have : (b.toNat + 1) * 256 ^ m.length ≤ a.toNat * 256 ^ m.length := Nat.mul_le_mul_right _ h2
        rw [Nat.add_mul] at this
        rw [if_pos h2, if_neg (by omega), if_pos (by omega)]
      · rw [if_neg h2, cmpB_deB l m h', show a.toNat = b.toNat from by omega]
        by_cases h3 : deB l < deB m
        · simp [h3]
        · by_cases h4 : deB m < deB l
          · simp [h3, h4]
          · simp [h3, h4]

end Go.Proofs.YtpmndmgfoiagnaaDoor
