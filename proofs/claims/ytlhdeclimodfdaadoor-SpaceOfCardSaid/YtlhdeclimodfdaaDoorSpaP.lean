/- Words of 64 bits as lists of flags; how many bits are set; the first that is not. Plain Lean; no program is named here. -/
import Derived.Lib.TrailingZeros
import Derived.Laws.BitsAllLaws
namespace Go.Proofs.YtlhdeclimodfdaaDoor
open Go
set_option linter.unusedVariables false

/-- The number of some flags, the first the lowest bit. -/
def wordL : List Bool → Nat
  | [] => 0
  | b :: l => b.toNat + 2 * wordL l
theorem wordL_bit : ∀ (l : List Bool) (k : Nat), (wordL l).testBit k = l.getD k false
  | [], k => by simp [wordL]
  | b :: l, 0 => by
    rw [wordL, Nat.testBit_zero]
    cases b <;> simp <;> omega
  | b :: l, k + 1 => by
    rw [wordL, Nat.testBit_succ, show (b.toNat + 2 * wordL l) / 2 = wordL l by cases b <;> simp <;> omega]
    exact wordL_bit l k
theorem wordL_lt : ∀ (l : List Bool), wordL l < 2 ^ l.length
  | [] => by simp [wordL]
  | b :: l => by
    have := wordL_lt l
    rw [wordL, List.length_cons, Nat.pow_succ]
    cases b <;> simp <;> omega
theorem wordL_lt64 {l : List Bool} (h : l.length ≤ 64) : wordL l < 18446744073709551616 :=
  Nat.lt_of_lt_of_le (wordL_lt l) (Nat.pow_le_pow_right (by omega) h : 2 ^ l.length ≤ 2 ^ 64)
theorem wordL_flip (l : List Bool) (k : Nat) (h : k < l.length) : wordL l ^^^ 2 ^ k = wordL (l.set k (!l[k])) := by
  apply Nat.eq_of_testBit_eq
  intro i
  rw [Nat.testBit_xor, wordL_bit, wordL_bit, Nat.testBit_two_pow]
  by_cases hi : k = i
  · subst hi
    simp [List.getD_eq_getElem?_getD, h]
  · simp [List.getD_eq_getElem?_getD, hi]

/-- How many of n bits are set. -/
def popN : Nat → Nat → Nat
  | 0, _ => 0
  | n + 1, x => x % 2 + popN n (x / 2)
theorem popN_zero : ∀ n, popN n 0 = 0
  | 0 => rfl
  | n + 1 => by rw [popN, Nat.zero_div, popN_zero n]
theorem popN_word : ∀ (n : Nat) (l : List Bool), l.length ≤ n → popN n (wordL l) = l.count true
  | n, [], _ => by rw [wordL, popN_zero]; rfl
  | 0, b :: l, h => by simp at h
  | n + 1, b :: l, h => by
    rw [wordL, popN, show (b.toNat + 2 * wordL l) / 2 = wordL l by cases b <;> simp <;> omega, popN_word n l (by simpa using h), List.count_cons]
    cases b <;> simp <;> omega
theorem popN_add : ∀ (m n x : Nat), popN (m + n) x = popN m x + popN n (x / 2 ^ m)
  | 0, n, x => by simp [popN]
  | m + 1, n, x => by
    rw [show m + 1 + n = (m + n) + 1 by omega, popN, popN_add m n, popN, Nat.div_div_eq_div_mul, Nat.pow_succ, Nat.mul_comm 2]
    omega
theorem popN_mod : ∀ (n x : Nat), popN n (x % 2 ^ n) = popN n x
  | 0, x => rfl
  | n + 1, x => by
    rw [popN, popN, ← popN_mod n (x / 2)]
    congr 1
    · rw [Nat.pow_succ]; exact Nat.mod_mul_left_mod x _ 2
    · congr 1
      rw [Nat.pow_succ, Nat.mul_comm, Nat.mod_mul_right_div_self]

/-! ### The bits of all bytes at once -/
theorem and_split (a b c d : Nat) (ha : a < 256) (hc : c < 256) : (a + 256 * b) &&& (c + 256 * d) = (a &&& c) + 256 * (b &&& d) := by
  have hac : a &&& c < 2 ^ 8 := Nat.and_lt_two_pow a hc
  apply Nat.eq_of_testBit_eq
  intro i
  rw [Nat.testBit_and, show a + 256 * b = 2 ^ 8 * b + a by omega, show c + 256 * d = 2 ^ 8 * d + c by omega, show (a &&& c) + 256 * (b &&& d) = 2 ^ 8 * (b &&& d) + (a &&& c) by omega,
    Nat.testBit_two_pow_mul_add _ ha, Nat.testBit_two_pow_mul_add _ hc, Nat.testBit_two_pow_mul_add _ hac]
  split
  · rw [Nat.testBit_and]
  · rw [Nat.testBit_and]
/-- A byte, n times over. -/
def repB (c : Nat) : Nat → Nat
  | 0 => 0
  | n + 1 => c + 256 * repB c n
def pop1 (b : Nat) : Nat := (b / 2 &&& 85) + (b &&& 85)
def pop2 (b : Nat) : Nat := (b / 4 &&& 51) + (b &&& 51)
def pop3 (b : Nat) : Nat := (b / 16 + b) &&& 15
theorem pop_byte : ∀ b, b < 256 → pop1 b < 256 ∧ pop2 (pop1 b) < 256 ∧ pop3 (pop2 (pop1 b)) = popN 8 b ∧ popN 8 b ≤ 8 ∧ (∀ d, d < 16 → d ≤ 4 → pop2 (pop1 b) / 16 ≤ 4 ∧ pop2 (pop1 b) % 16 ≤ 4) := by decide +kernel
/-- The bytes of a number, each turned by f. -/
def mapB (f : Nat → Nat) : Nat → Nat → Nat
  | 0, _ => 0
  | n + 1, x => f (x % 256) + 256 * mapB f n (x / 256)
theorem half_and (x c : Nat) (hc : ∀ b, b < 256 → ∀ t, t < 2 → (b / 2 + 128 * t) &&& c = b / 2 &&& c) (hc256 : c < 256) (y m : Nat) (hx : x = x % 256 + 256 * y) :
    (x / 2) &&& (c + 256 * m) = (x % 256 / 2 &&& c) + 256 * ((y / 2) &&& m) := by
  have h1 : x / 2 = (x % 256 / 2 + 128 * (y % 2)) + 256 * (y / 2) := by omega
  rw [h1, and_split _ _ _ _ (by omega) hc256, hc _ (by omega) _ (by omega)]
theorem quart_and (x c : Nat) (hc : ∀ b, b < 256 → ∀ t, t < 4 → (b / 4 + 64 * t) &&& c = b / 4 &&& c) (hc256 : c < 256) (y m : Nat) (hx : x = x % 256 + 256 * y) :
    (x / 4) &&& (c + 256 * m) = (x % 256 / 4 &&& c) + 256 * ((y / 4) &&& m) := by
  have h1 : x / 4 = (x % 256 / 4 + 64 * (y % 4)) + 256 * (y / 4) := by omega
  rw [h1, and_split _ _ _ _ (by omega) hc256, hc _ (by omega) _ (by omega)]
theorem c85 : ∀ b, b < 256 → ∀ t, t < 2 → (b / 2 + 128 * t) &&& 85 = b / 2 &&& 85 := by decide +kernel
theorem c51 : ∀ b, b < 256 → ∀ t, t < 4 → (b / 4 + 64 * t) &&& 51 = b / 4 &&& 51 := by decide +kernel
theorem stage1 : ∀ (n x : Nat), (x / 2 &&& repB 85 n) + (x &&& repB 85 n) = mapB pop1 n x
  | 0, x => by simp [repB, mapB]
  | n + 1, x => by
    have hx : x = x % 256 + 256 * (x / 256) := by omega
    have h2 : x &&& (85 + 256 * repB 85 n) = (x % 256 &&& 85) + 256 * (x / 256 &&& repB 85 n) := by
      conv => lhs; lhs; rw [hx]
      exact and_split _ _ _ _ (by omega) (by omega)
    rw [repB, half_and x 85 c85 (by omega) (x / 256) _ hx, h2, mapB, ← stage1 n (x / 256)]
    unfold pop1
    omega
theorem stage2 : ∀ (n x : Nat), (x / 4 &&& repB 51 n) + (x &&& repB 51 n) = mapB pop2 n x
  | 0, x => by simp [repB, mapB]
  | n + 1, x => by
    have hx : x = x % 256 + 256 * (x / 256) := by omega
    have h2 : x &&& (51 + 256 * repB 51 n) = (x % 256 &&& 51) + 256 * (x / 256 &&& repB 51 n) := by
      conv => lhs; lhs; rw [hx]
      exact and_split _ _ _ _ (by omega) (by omega)
    rw [repB, quart_and x 51 c51 (by omega) (x / 256) _ hx, h2, mapB, ← stage2 n (x / 256)]
    unfold pop2
    omega
theorem mapB_map (f g : Nat → Nat) (hf : ∀ b, b < 256 → f b < 256) : ∀ (n x : Nat), mapB g n (mapB f n x) = mapB (fun b => g (f b)) n x
  | 0, x => rfl
  | n + 1, x => by
    have h := hf (x % 256) (by omega)
    rw [mapB, mapB, mapB, show (f (x % 256) + 256 * mapB f n (x / 256)) % 256 = f (x % 256) by omega, show (f (x % 256) + 256 * mapB f n (x / 256)) / 256 = mapB f n (x / 256) by omega, mapB_map f g hf n]
theorem mapB_congr {f g : Nat → Nat} (h : ∀ b, b < 256 → f b = g b) : ∀ (n x : Nat), mapB f n x = mapB g n x
  | 0, x => rfl
  | n + 1, x => by rw [mapB, mapB, h _ (by omega), mapB_congr h n]
/-- What two rounds leave: in each byte two numbers of at most 4. -/
theorem two_nib : ∀ b, b < 256 → pop2 (pop1 b) / 16 ≤ 4 ∧ pop2 (pop1 b) % 16 ≤ 4 ∧ pop1 b < 256 ∧ pop2 (pop1 b) < 256 := by decide +kernel
theorem c15 : ∀ b, b < 256 → ∀ t, t < 5 → b / 16 ≤ 4 → b % 16 ≤ 4 → ((b / 16 + 16 * t + b) &&& 15 = (b / 16 + b) &&& 15) := by decide +kernel
/-- A number each of whose n bytes holds two numbers of at most 4. -/
def nibs : Nat → Nat → Prop
  | 0, x => x = 0
  | n + 1, x => x % 256 / 16 ≤ 4 ∧ x % 256 % 16 ≤ 4 ∧ nibs n (x / 256)
theorem nibs_map : ∀ (n x : Nat), nibs n (mapB (fun b => pop2 (pop1 b)) n x)
  | 0, x => rfl
  | n + 1, x => by
    obtain ⟨h1, h2, _, h4⟩ := two_nib (x % 256) (by omega)
    rw [mapB]
    refine ⟨?_, ?_, ?_⟩
    · rw [show (pop2 (pop1 (x % 256)) + 256 * mapB (fun b => pop2 (pop1 b)) n (x / 256)) % 256 = pop2 (pop1 (x % 256)) by omega]; exact h1
    · rw [show (pop2 (pop1 (x % 256)) + 256 * mapB (fun b => pop2 (pop1 b)) n (x / 256)) % 256 = pop2 (pop1 (x % 256)) by omega]; exact h2
    · rw [show (pop2 (pop1 (x % 256)) + 256 * mapB (fun b => pop2 (pop1 b)) n (x / 256)) / 256 = mapB (fun b => pop2 (pop1 b)) n (x / 256) by omega]; exact nibs_map n _
theorem nibs_low {n x : Nat} (h : nibs n x) : x % 16 ≤ 4 := by
  cases n with
  | zero => have : x = 0 := h; omega
  | succ n => have := h.2.1; omega
theorem stage3 : ∀ (n x : Nat), nibs n x → (x / 16 + x) &&& repB 15 n = mapB pop3 n x
  | 0, x, _ => by simp [repB, mapB]
  | n + 1, x, h => by
    obtain ⟨h1, h2, h3⟩ := h
    have hl := nibs_low h3
    have e : x / 16 + x = (x % 256 / 16 + 16 * (x / 256 % 16) + x % 256) + 256 * (x / 256 / 16 + x / 256) := by omega
    have hc := c15 (x % 256) (by omega) (x / 256 % 16) (by omega) h1 h2
    rw [repB, e, and_split _ _ _ _ (by omega) (by omega), stage3 n _ h3, mapB, hc]
    rfl
/-- The sum of n bytes. -/
def sumB : Nat → Nat → Nat
  | 0, _ => 0
  | n + 1, x => x % 256 + sumB n (x / 256)
theorem sumB_map (f : Nat → Nat) (hf : ∀ b, b < 256 → f b < 256) : ∀ (n x : Nat), sumB n (mapB f n x) = (fun s => s) (sumB n (mapB f n x)) := fun _ _ => rfl
theorem pop_bytes : ∀ (n x : Nat), sumB n (mapB (fun b => popN 8 b) n x) = popN (8 * n) x
  | 0, x => rfl
  | n + 1, x => by
    have hb : popN 8 (x % 256) ≤ 8 := (pop_byte (x % 256) (by omega)).2.2.2.1
    rw [mapB, sumB, show (popN 8 (x % 256) + 256 * mapB (fun b => popN 8 b) n (x / 256)) % 256 = popN 8 (x % 256) by omega,
      show (popN 8 (x % 256) + 256 * mapB (fun b => popN 8 b) n (x / 256)) / 256 = mapB (fun b => popN 8 b) n (x / 256) by omega,
      pop_bytes n, show 8 * (n + 1) = 8 + 8 * n by omega, popN_add, ← popN_mod 8 x]
theorem pops_le : ∀ (n x : Nat), ∃ l : List Nat, l.length = n ∧ (∀ p ∈ l, p ≤ 8) ∧ mapB (fun b => popN 8 b) n x = l.foldr (fun p a => p + 256 * a) 0 ∧ popN (8 * n) x = l.sum
  | 0, x => ⟨[], rfl, by simp, rfl, rfl⟩
  | n + 1, x => by
    obtain ⟨l, h1, h2, h3, h4⟩ := pops_le n (x / 256)
    have hb : popN 8 (x % 256) ≤ 8 := (pop_byte (x % 256) (by omega)).2.2.2.1
    refine ⟨popN 8 (x % 256) :: l, by simp [h1], ?_, ?_, ?_⟩
    · intro p hp
      rcases List.mem_cons.1 hp with rfl | hp
      · exact hb
      · exact h2 p hp
    · rw [mapB, h3]; rfl
    · rw [show 8 * (n + 1) = 8 + 8 * n by omega, popN_add, ← popN_mod 8 x, List.sum_cons, ← h4]
/-- The three rounds of bits.OnesCount64, then the bytes' sum. -/
theorem ones_spec (x : Nat) : ∃ a b c d e f g h : Nat, a ≤ 8 ∧ b ≤ 8 ∧ c ≤ 8 ∧ d ≤ 8 ∧ e ≤ 8 ∧ f ≤ 8 ∧ g ≤ 8 ∧ h ≤ 8 ∧
    (let x1 := (x / 2 &&& repB 85 8) + (x &&& repB 85 8); let x2 := (x1 / 4 &&& repB 51 8) + (x1 &&& repB 51 8); (x2 / 16 + x2) &&& repB 15 8 = a + 256 * (b + 256 * (c + 256 * (d + 256 * (e + 256 * (f + 256 * (g + 256 * h))))))) ∧
    popN 64 x = a + b + c + d + e + f + g + h := by
  obtain ⟨l, hl, h8, hm, hs⟩ := pops_le 8 x
  match l, hl with
  | [a, b, c, d, e, f, g, h], _ =>
    refine ⟨a, b, c, d, e, f, g, h, h8 a (by simp), h8 b (by simp), h8 c (by simp), h8 d (by simp), h8 e (by simp), h8 f (by simp), h8 g (by simp), h8 h (by simp), ?_, ?_⟩
    · simp only
      rw [stage1, stage2, mapB_map _ _ (fun b hb => (two_nib b hb).2.2.1), stage3 _ _ (nibs_map 8 x), mapB_map _ _ (fun b hb => (two_nib b hb).2.2.2)]
      rw [mapB_congr (fun b hb => (pop_byte b hb).2.2.1), hm]
      simp
    · rw [hs]; simp; omega
/-- The last rounds add all bytes up. -/
theorem ones_sum (a b c d e f g h : Nat) (ha : a ≤ 8) (hb : b ≤ 8) (hc : c ≤ 8) (hd : d ≤ 8) (he : e ≤ 8) (hf : f ≤ 8) (hg : g ≤ 8) (hh : h ≤ 8) :
    ∀ q, q = a + 256 * (b + 256 * (c + 256 * (d + 256 * (e + 256 * (f + 256 * (g + 256 * h)))))) → ∀ s, s = q + q / 256 → ∀ t, t = s + s / 65536 → q ≤ 620000000000000000 ∧ s ≤ 630000000000000000 ∧ t ≤ 640000000000000000 ∧ (t + t / 4294967296) % 128 = a + b + c + d + e + f + g + h := by
  intro q hq s hs t ht
  obtain ⟨r6, e6⟩ : ∃ r, r = g + 256 * h := ⟨_, rfl⟩
  rw [← e6] at hq
  obtain ⟨r5, e5⟩ : ∃ r, r = f + 256 * r6 := ⟨_, rfl⟩
  rw [← e5] at hq
  obtain ⟨r4, e4⟩ : ∃ r, r = e + 256 * r5 := ⟨_, rfl⟩
  rw [← e4] at hq
  obtain ⟨r3, e3⟩ : ∃ r, r = d + 256 * r4 := ⟨_, rfl⟩
  rw [← e3] at hq
  obtain ⟨r2, e2⟩ : ∃ r, r = c + 256 * r3 := ⟨_, rfl⟩
  rw [← e2] at hq
  obtain ⟨r1, e1⟩ : ∃ r, r = b + 256 * r2 := ⟨_, rfl⟩
  rw [← e1] at hq
  have b6 : r6 ≤ 2056 := by clear hq hs ht e1 e2 e3 e4 e5; omega
  have b5 : r5 ≤ 526344 := by clear hq hs ht e1 e2 e3 e4 e6; omega
  have b4 : r4 ≤ 134744072 := by clear hq hs ht e1 e2 e3 e5 e6; omega
  have b3 : r3 ≤ 34494482440 := by clear hq hs ht e1 e2 e4 e5 e6; omega
  have b2 : r2 ≤ 8830587504648 := by clear hq hs ht e1 e3 e4 e5 e6; omega
  have b1 : r1 ≤ 2260630401189896 := by clear hq hs ht e2 e3 e4 e5 e6; omega
  have bq : q ≤ 578721382704613384 := by clear hs ht e1 e2 e3 e4 e5 e6; omega
  have h1 : q / 256 = r1 := by clear hs ht e1 e2 e3 e4 e5 e6 b1 b2 b3 b4 b5 b6; omega
  rw [h1] at hs
  obtain ⟨s2, f2⟩ : ∃ r, r = r2 + r3 := ⟨_, rfl⟩
  obtain ⟨s4, f4⟩ : ∃ r, r = r4 + r5 := ⟨_, rfl⟩
  obtain ⟨s6, f6⟩ : ∃ r, r = r6 + h := ⟨_, rfl⟩
  have h2 : s = (a + b) + 256 * (b + c) + 65536 * s2 := by clear ht e3 e4 e5 e6 b1 b2 b3 b4 b5 b6 h1 f4 f6; omega
  have h3 : s / 65536 = s2 := by clear hq hs ht e1 e2 e3 e4 e5 e6 b1 b2 b3 b4 b5 b6 h1 f2 f4 f6; omega
  rw [h3] at ht
  have h4 : s2 = (c + d) + 256 * (d + e) + 65536 * s4 := by clear hq hs ht e1 e5 e6 b1 b2 b3 b4 b5 b6 h1 h2 h3 f6; omega
  have h5 : s4 = (e + f) + 256 * (f + g) + 65536 * s6 := by clear hq hs ht e1 e2 e3 b1 b2 b3 b4 b5 b6 h1 h2 h3 h4 f2; omega
  have h6 : s6 = (g + h) + 256 * h := by clear hq hs ht e1 e2 e3 e4 e5 b1 b2 b3 b4 b5 b6 h1 h2 h3 h4 h5 f2 f4; omega
  obtain ⟨t4, g4⟩ : ∃ r, r = s4 + s6 := ⟨_, rfl⟩
  have h7 : t = ((a + b + c + d) + 256 * (b + c + d + e) + 65536 * (c + d + e + f) + 16777216 * (d + e + f + g)) + 4294967296 * t4 := by clear hq hs e1 e2 e3 e4 e5 e6 b1 b2 b3 b4 b5 b6 h1 h3 h6 f2 f4 f6; omega
  have h8 : t / 4294967296 = t4 := by clear hq hs ht e1 e2 e3 e4 e5 e6 b1 b2 b3 b4 b5 b6 h1 h2 h3 h4 h5 h6 f2 f4 f6 g4; omega
  have h9 : t4 = (e + f + g + h) + 256 * (f + g + h + 256 * s6) := by clear hq hs ht e1 e2 e3 e4 e5 e6 b1 b2 b3 b4 b5 b6 h1 h2 h3 h4 h7 h8 f2 f4 f6; omega
  have bs : s ≤ 630000000000000000 := by clear ht e1 e2 e3 e4 e5 e6 b2 b3 b4 b5 b6 h1 h2 h3 h4 h5 h6 h7 h8 h9 f2 f4 f6 g4; omega
  have bt : t ≤ 640000000000000000 := by clear hq e1 e2 e3 e4 e5 e6 b1 b4 b5 b6 h1 h2 h3 h4 h5 h6 h7 h8 h9 f4 f6 g4 hs; omega
  refine ⟨Nat.le_trans bq (by decide), bs, bt, ?_⟩
  rw [h8]
  clear hq hs ht e1 e2 e3 e4 e5 e6 b1 b2 b3 b4 b5 b6 h1 h2 h3 h4 h5 h6 h8 f2 f4 f6 g4 bs bt bq
  generalize f + g + h + 256 * s6 = y at *
  omega
theorem rep85 : repB 85 8 = 6148914691236517205 := by decide
theorem rep51 : repB 51 8 = 3689348814741910323 := by decide
theorem rep15 : repB 15 8 = 1085102592571150095 := by decide
end Go.Proofs.YtlhdeclimodfdaaDoor
