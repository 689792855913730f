/- Bytes with bits turned within 32 bits in a row are no sealed ones. Plain Lean; no program is named here. -/
import Derived.Test.YtgoemlcbpnnciabDoorNumP
import Derived.Test.YtgoemlcbpnnciabDoorSumP
namespace Go.Proofs.YtgoemlcbpnnciabDoor
open Go Go.RowKit
set_option linter.unusedVariables false

/-- Bytes that are followed by their sum. -/
def sealB (l : List UInt8) : List UInt8 := l ++ beB (sumOf l).toNat 4

theorem bits8_tb : ∀ x, x < 256 → ∀ k, k < 8 → (bits8 x).getD k false = x.testBit (7 - k) := by decide +kernel
theorem bits8_len (x : Nat) : (bits8 x).length = 8 := rfl
theorem bitsL_cons (b : UInt8) (l : List UInt8) : bitsL (b :: l) = bits8 b.toNat ++ bitsL l := List.flatMap_cons
theorem bitsL_at : ∀ (l : List UInt8) (j k : Nat) (hj : j < l.length), k < 8 → (bitsL l).getD (8 * j + k) false = l[j].toNat.testBit (7 - k)
  | [], j, k, hj, _ => by simp at hj
  | b :: l, 0, k, _, hk => by
    rw [bitsL_cons, List.getD_eq_getElem?_getD, List.getElem?_append_left (by rw [bits8_len]; omega), ← List.getD_eq_getElem?_getD, Nat.mul_zero, Nat.zero_add]
    exact bits8_tb _ b.toNat_lt k hk
  | b :: l, j + 1, k, hj, hk => by
    rw [bitsL_cons, List.getD_eq_getElem?_getD, List.getElem?_append_right (by rw [bits8_len]; omega), ← List.getD_eq_getElem?_getD, bits8_len, show 8 * (j + 1) + k - 8 = 8 * j + k by omega]
    exact bitsL_at l j k (by simpa using hj) hk
theorem topW_sum (s : Rg) : topW (bitsL (beB s.toNat 4)) = s := by
  apply BitVec.eq_of_getLsbD_eq
  intro i hi
  obtain ⟨q, hq⟩ : ∃ q, q = 31 - i := ⟨_, rfl⟩
  have e : i = 31 - q := by omega
  have hq32 : q < 32 := by omega
  rw [e, topW_bit _ q hq32]
  have hd := bitsL_at (beB s.toNat 4) (q / 8) (q % 8) (by rw [beB_length]; omega) (by omega)
  rw [show 8 * (q / 8) + q % 8 = q by omega] at hd
  rw [hd]
  simp only [beB, List.getElem_map, List.getElem_range, UInt8.toNat_ofNat']
  rw [Nat.testBit_mod_two_pow, show (256 : Nat) = 2 ^ 8 from rfl, ← Nat.pow_mul, Nat.testBit_div_two_pow, BitVec.testBit_toNat]
  have : 7 - q % 8 < 8 := by omega
  simp only [this, decide_true, Bool.true_and]
  congr 1
  omega
theorem seal_feed (t : List UInt8) : feed (BitVec.allOnes 32) (bitsL (sealB t)) = feed (BitVec.allOnes 32) (zeros 32) := by
  have h32 : (bitsL (beB (sumOf t).toNat 4)).length = 32 := by rw [bitsL_length, beB_length]
  unfold sealB
  rw [bitsL_append, feed_append, feed_word _ _ (by omega), topW_sum, h32, ← moreR_bits]
  have e1 : sumOf t = ~~~(moreR (BitVec.allOnes 32) t) := by
    unfold sumOf sumMore
    rw [show ~~~(0#32 : Rg) = BitVec.allOnes 32 from rfl]
  rw [e1]
  congr 1
  generalize moreR (BitVec.allOnes 32) t = r
  ext i hi
  simp only [BitVec.getElem_xor, BitVec.getElem_not, BitVec.getElem_allOnes]
  cases r[i] <;> rfl
theorem feed_diff (xs ys : List Bool) (r : Rg) (h : xs.length = ys.length) : feed r (List.zipWith xor xs ys) = feed r xs ^^^ feed 0#32 ys := by
  have := feed_lin xs ys r 0#32 h
  rwa [BitVec.xor_zero] at this

/-- The first i bits of a word, the highest first. -/
def wbits (u i : Nat) : List Bool := (List.range i).map fun j => u.testBit (31 - j)
theorem wbits_length (u i : Nat) : (wbits u i).length = i := by simp [wbits]
theorem wbits_succ (u i : Nat) : wbits u (i + 1) = wbits u i ++ [u.testBit (31 - i)] := by simp [wbits, List.range_succ]
/-- Which bits are turned: from place f on, i of them asked for. -/
def mask (N f u i : Nat) : List Bool := zeros f ++ wbits u i ++ zeros (N - f - i)
theorem mask_length {N f u i : Nat} (h : f + i ≤ N) : (mask N f u i).length = N := by simp [mask, zeros, wbits_length]; omega
theorem zeros_succ (n : Nat) : zeros (n + 1) = false :: zeros n := rfl
theorem mask_at {N f u i : Nat} (h : f + i < N) : (mask N f u i).getD (f + i) false = false := by
  unfold mask
  have e : N - f - i = (N - f - i - 1) + 1 := by omega
  rw [e, zeros_succ, List.getD_eq_getElem?_getD, List.getElem?_append_right (by simp [zeros, wbits_length])]
  simp [zeros, wbits_length]
theorem mask_succ {N f u i : Nat} (h : f + i < N) : mask N f u (i + 1) = (mask N f u i).set (f + i) (u.testBit (31 - i)) := by
  unfold mask
  have e : N - f - i = (N - f - i - 1) + 1 := by omega
  rw [e, zeros_succ, wbits_succ, show N - f - (i + 1) = N - f - i - 1 by omega]
  rw [List.set_append_right _ _ (by simp [zeros, wbits_length])]
  simp [zeros, wbits_length]

theorem zip_set (k : Nat) : ∀ (A M : List Bool), A.length = M.length → M.getD k false = false → List.zipWith xor A (M.set k true) = (List.zipWith xor A M).set k (!(List.zipWith xor A M).getD k false) := by
  induction k with
  | zero =>
    intro A M h hm
    cases A <;> cases M <;> simp_all
  | succ k ih =>
    intro A M h hm
    cases A with
    | nil => cases M <;> simp_all
    | cons a A =>
      cases M with
      | nil => simp at h
      | cons m M =>
        simp only [List.set_cons_succ, List.zipWith_cons_cons, List.getD_cons_succ] at hm ⊢
        rw [ih A M (by simpa using h) hm]
theorem bits8_flip : ∀ x, x < 256 → ∀ k, k < 8 → bits8 (x ^^^ (128 >>> k)) = (bits8 x).set k (!(bits8 x).getD k false) := by decide +kernel
theorem flip_byte (b : UInt8) (k : Nat) (hk : k < 8) : bits8 (b ^^^ UInt8.ofNat (128 >>> k)).toNat = (bits8 b.toNat).set k (!(bits8 b.toNat).getD k false) := by
  rw [← bits8_flip _ b.toNat_lt k hk, UInt8.toNat_xor, UInt8.toNat_ofNat']
  congr 2
  have : ∀ k, k < 8 → 128 >>> k % 2 ^ 8 = 128 >>> k := by decide
  exact this k hk
/-- One bit turned. -/
def flipB (l : List UInt8) (k : Nat) : List UInt8 := l.set (k / 8) (l.getD (k / 8) 0 ^^^ UInt8.ofNat (128 >>> (k % 8)))
theorem flipB_length (l : List UInt8) (k : Nat) : (flipB l k).length = l.length := by simp [flipB]
theorem flipB_bits : ∀ (l : List UInt8) (k : Nat), k < 8 * l.length → bitsL (flipB l k) = (bitsL l).set k (!(bitsL l).getD k false)
  | [], k, h => by simp at h
  | b :: l, k, h => by
    by_cases hk : k < 8
    · have e : k / 8 = 0 := by omega
      have e2 : k % 8 = k := by omega
      unfold flipB
      rw [e, e2, List.set_cons_zero, bitsL_cons, bitsL_cons, List.getD_cons_zero, flip_byte b k hk, List.set_append_left _ _ (by rw [bits8_len]; exact hk), List.getD_eq_getElem?_getD, List.getD_eq_getElem?_getD, List.getElem?_append_left (by rw [bits8_len]; exact hk)]
    · have e : k / 8 = (k - 8) / 8 + 1 := by omega
      have e2 : k % 8 = (k - 8) % 8 := by omega
      have ih := flipB_bits l (k - 8) (by simp at h; omega)
      unfold flipB at ih ⊢
      rw [e, e2, List.set_cons_succ, List.getD_cons_succ, bitsL_cons, ih, bitsL_cons, List.set_append_right _ _ (by rw [bits8_len]; omega), bits8_len, List.getD_eq_getElem?_getD (l := bits8 b.toNat ++ bitsL l), List.getElem?_append_right (by rw [bits8_len]; omega), bits8_len, ← List.getD_eq_getElem?_getD]

/-- The bytes behind i rounds. -/
def Burst (B0 : List UInt8) (f u i : Nat) (B : List UInt8) : Prop := B.length = B0.length ∧ bitsL B = List.zipWith xor (bitsL B0) (mask (8 * B0.length) f u i)
theorem zip_zeros : ∀ (A : List Bool), List.zipWith xor A (zeros A.length) = A
  | [] => rfl
  | a :: A => by rw [List.length_cons, zeros_succ, List.zipWith_cons_cons, zip_zeros A]; simp
theorem Burst.start (B0 : List UInt8) (f u : Nat) (h : f ≤ 8 * B0.length) : Burst B0 f u 0 B0 := by
  refine ⟨rfl, ?_⟩
  have : mask (8 * B0.length) f u 0 = zeros (bitsL B0).length := by
    unfold mask wbits zeros
    rw [bitsL_length]
    simp only [List.range_zero, List.map_nil, List.append_nil, List.replicate_append_replicate]
    congr 1
    omega
  rw [this, zip_zeros]
theorem Burst.skip {B0 B : List UInt8} {f u i : Nat} (h : Burst B0 f u i B) (hi : f + i < 8 * B0.length) (hu : u.testBit (31 - i) = false) : Burst B0 f u (i + 1) B := by
  refine ⟨h.1, ?_⟩
  rw [mask_succ hi, hu, h.2]
  congr 1
  have := mask_at (u := u) hi
  apply List.ext_getElem?
  intro j
  rw [List.getElem?_set]
  split
  · rename_i hj
    subst hj
    rw [if_pos (by rw [mask_length (by omega)]; exact hi)]
    rw [List.getD_eq_getElem?_getD, List.getElem?_eq_getElem (by rw [mask_length (by omega)]; exact hi)] at this
    rw [List.getElem?_eq_getElem (by rw [mask_length (by omega)]; exact hi)]
    simpa using this
  · rfl
theorem Burst.turn {B0 B : List UInt8} {f u i : Nat} (h : Burst B0 f u i B) (hi : f + i < 8 * B0.length) (hu : u.testBit (31 - i) = true) : Burst B0 f u (i + 1) (flipB B (f + i)) := by
  refine ⟨by rw [flipB_length]; exact h.1, ?_⟩
  rw [mask_succ hi, hu, zip_set _ _ _ (by rw [bitsL_length, mask_length (by omega)]) (mask_at hi), ← h.2]
  exact flipB_bits B _ (by rw [h.1]; exact hi)
/-- Whether a bit was turned within i rounds. -/
def anyT (u i : Nat) : Bool := (wbits u i).any id
theorem anyT_succ (u i : Nat) : anyT u (i + 1) = (anyT u i || u.testBit (31 - i)) := by simp [anyT, wbits_succ]
theorem anyT_not {u i : Nat} (h : anyT u i = false) : wbits u i = zeros i := by
  apply List.ext_getElem
  · simp [wbits_length, zeros]
  · intro j h1 h2
    unfold anyT at h
    rw [List.any_eq_false] at h
    have := h _ (List.getElem_mem h1)
    simp only [id, Bool.not_eq_true] at this
    rw [this]
    simp [zeros]
theorem Burst.none {B0 B : List UInt8} {f u i : Nat} (h : Burst B0 f u i B) (hi : f + i ≤ 8 * B0.length) (hu : anyT u i = false) : bitsL B = bitsL B0 := by
  rw [h.2]
  have : mask (8 * B0.length) f u i = zeros (bitsL B0).length := by
    unfold mask
    rw [anyT_not hu, bitsL_length]
    unfold zeros
    simp only [List.replicate_append_replicate]
    congr 1
    omega
  rw [this, zip_zeros]
theorem bits8_inj : ∀ x, x < 256 → ∀ y, y < 256 → bits8 x = bits8 y → x = y := by
  intro x hx y hy h
  apply Nat.eq_of_testBit_eq
  intro i
  by_cases hi : i < 8
  · have h1 := bits8_tb x hx (7 - i) (by omega)
    have h2 := bits8_tb y hy (7 - i) (by omega)
    rw [show 7 - (7 - i) = i by omega] at h1 h2
    rw [← h1, ← h2, h]
  · have hp : 2 ^ 8 ≤ 2 ^ i := Nat.pow_le_pow_right (by omega) (by omega)
    rw [Nat.testBit_lt_two_pow (by omega), Nat.testBit_lt_two_pow (by omega)]
theorem bitsL_inj : ∀ (l m : List UInt8), l.length = m.length → bitsL l = bitsL m → l = m
  | [], [], _, _ => rfl
  | [], _ :: _, h, _ => by simp at h
  | _ :: _, [], h, _ => by simp at h
  | a :: l, b :: m, h, hb => by
    rw [bitsL_cons, bitsL_cons] at hb
    obtain ⟨h1, h2⟩ := List.append_inj hb (by rw [bits8_len, bits8_len])
    rw [UInt8.toNat_inj.1 (bits8_inj _ a.toNat_lt _ b.toNat_lt h1), bitsL_inj l m (by simpa using h) h2]
/-- Turned bytes are no sealed ones. -/
theorem Burst.seen {t t' : List UInt8} {B : List UInt8} {f u i : Nat} (h : Burst (sealB t) f u i B) (hi : f + i ≤ 8 * (sealB t).length) (h32 : i ≤ 32) (hu : anyT u i = true) : B ≠ sealB t' := by
  rintro rfl
  have h1 := seal_feed t'
  rw [h.2, feed_diff _ _ _ (by rw [bitsL_length, mask_length hi]), seal_feed t] at h1
  have h0 : feed 0#32 (mask (8 * (sealB t).length) f u i) = 0#32 := by
    have h2 : feed (BitVec.allOnes 32) (zeros 32) ^^^ (feed (BitVec.allOnes 32) (zeros 32) ^^^ feed 0#32 (mask (8 * (sealB t).length) f u i)) = feed (BitVec.allOnes 32) (zeros 32) ^^^ feed (BitVec.allOnes 32) (zeros 32) := by rw [h1]
    rwa [← BitVec.xor_assoc, BitVec.xor_self, BitVec.zero_xor] at h2
  refine burst f (8 * (sealB t).length - f - i) (wbits u i) (by rw [wbits_length]; exact h32) ?_ h0
  intro hz
  rw [wbits_length] at hz
  have : anyT u i = false := by unfold anyT; rw [hz]; simp [zeros]
  rw [hu] at this
  cases this
end Go.Proofs.YtgoemlcbpnnciabDoor
