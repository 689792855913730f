/- The sum of bytes, in plain Lean: a register of 32 bits, bit by bit; four bits at once by a table; what is turned within 32 bits is seen. No program is named here. -/
import Derived.Laws.BitsAllLaws
namespace Go.Proofs.YtpmndmgfoiagnaaDoor
set_option linter.unusedVariables false

abbrev Rg := BitVec 32
def poly : Rg := 0x04c11db7#32
/-- One bit further on. -/
def stepR (r : Rg) (b : Bool) : Rg := (r <<< 1) ^^^ (if (r.msb ^^ b) then poly else 0#32)
def feed (r : Rg) (bs : List Bool) : Rg := bs.foldl stepR r
theorem feed_nil (r : Rg) : feed r [] = r := rfl
theorem feed_cons (r : Rg) (b : Bool) (bs : List Bool) : feed r (b :: bs) = feed (stepR r b) bs := rfl
theorem feed_append (r : Rg) (bs cs : List Bool) : feed r (bs ++ cs) = feed (feed r bs) cs := List.foldl_append

theorem poly_lin (x y : Bool) : (if (x ^^ y) then poly else 0#32) = (if x then poly else 0#32) ^^^ (if y then poly else 0#32) := by
  cases x <;> cases y <;> simp
theorem step_lin (a c : Rg) (x y : Bool) : stepR (a ^^^ c) (x ^^ y) = stepR a x ^^^ stepR c y := by
  unfold stepR
  rw [BitVec.msb_xor, BitVec.shiftLeft_xor_distrib, show ((a.msb ^^ c.msb) ^^ (x ^^ y)) = ((a.msb ^^ x) ^^ (c.msb ^^ y)) from by cases a.msb <;> cases c.msb <;> cases x <;> cases y <;> rfl, poly_lin]
  ac_rfl
theorem feed_lin : ∀ (xs ys : List Bool) (a c : Rg), xs.length = ys.length → feed (a ^^^ c) (List.zipWith xor xs ys) = feed a xs ^^^ feed c ys
  | [], [], a, c, _ => rfl
  | x :: xs, y :: ys, a, c, h => by
    rw [List.zipWith_cons_cons, feed_cons, step_lin, feed_lin xs ys _ _ (by simpa using h)]
    rfl

/-! ### Four bits at once -/
def bit4 (h : Nat) : List Bool := [h.testBit 3, h.testBit 2, h.testBit 1, h.testBit 0]
def zero4 : List Bool := [false, false, false, false]
def tab (i : Nat) : Rg := feed (BitVec.ofNat 32 (i <<< 28)) zero4

theorem step_low (x : Rg) (h : x.msb = false) : stepR x false = x <<< 1 := by
  unfold stepR
  simp [h]
theorem low4 (x : Rg) (h : x >>> 28 = 0#32) : feed x zero4 = x <<< 4 := by
  have hb : ∀ i, i < 4 → x.getLsbD (28 + i) = false := by
    intro i hi
    have := congrArg (fun y : Rg => y.getLsbD i) h
    simpa using this
  have h0 := hb 0 (by omega)
  have h1 := hb 1 (by omega)
  have h2 := hb 2 (by omega)
  have h3 := hb 3 (by omega)
  have e1 : stepR x false = x <<< 1 := step_low x (by rw [BitVec.msb_eq_getLsbD_last]; exact h3)
  have e2 : stepR (x <<< 1) false = x <<< 2 := by
    rw [step_low _ (by rw [BitVec.msb_eq_getLsbD_last]; simpa using h2), ← BitVec.shiftLeft_add]
  have e3 : stepR (x <<< 2) false = x <<< 3 := by
    rw [step_low _ (by rw [BitVec.msb_eq_getLsbD_last]; simpa using h1), ← BitVec.shiftLeft_add]
  have e4 : stepR (x <<< 3) false = x <<< 4 := by
    rw [step_low _ (by rw [BitVec.msb_eq_getLsbD_last]; simpa using h0), ← BitVec.shiftLeft_add]
  simp only [zero4, feed_cons, feed_nil, e1, e2, e3, e4]

theorem tab_bits : ∀ k, k < 16 → ∀ h, h < 16 → feed (BitVec.ofNat 32 (k <<< 28)) (bit4 h) = tab (k ^^^ h) := by decide +kernel

theorem feed4 (r : Rg) (h : Nat) (hh : h < 16) : feed r (bit4 h) = (r <<< 4) ^^^ tab ((r >>> 28).toNat ^^^ h) := by
  have hk : (r >>> 28).toNat < 16 := by
    have := r.isLt
    rw [BitVec.toNat_ushiftRight, Nat.shiftRight_eq_div_pow]
    omega
  obtain ⟨k, hk'⟩ : ∃ k, k = (r >>> 28).toNat := ⟨_, rfl⟩
  have hhi : BitVec.ofNat 32 (k <<< 28) = (r >>> 28) <<< 28 := by
    apply BitVec.eq_of_toNat_eq
    rw [hk', BitVec.toNat_ofNat, BitVec.toNat_shiftLeft]
  have hlo : (r ^^^ (r >>> 28) <<< 28) >>> 28 = 0#32 := by
    ext i hi
    simp only [BitVec.getElem_ushiftRight, BitVec.getLsbD_xor, BitVec.getLsbD_shiftLeft, BitVec.getLsbD_ushiftRight, BitVec.getElem_zero]
    by_cases h : i < 4
    · simp [show 28 + i < 32 by omega]
    · have h1 : r.getLsbD (28 + i) = false := BitVec.getLsbD_of_ge r _ (by omega)
      have h3 : ¬ 28 + i < 32 := by omega
      simp [h1, h3]
  have hsl : (r ^^^ (r >>> 28) <<< 28) <<< 4 = r <<< 4 := by
    ext i hi
    simp only [BitVec.getElem_shiftLeft, BitVec.getElem_xor]
    by_cases h : i < 4
    · simp [h]
    · have : i - 4 < 28 := by omega
      simp [h, this]
  have e : r = (r ^^^ (r >>> 28) <<< 28) ^^^ ((r >>> 28) <<< 28) := by
    rw [BitVec.xor_assoc, BitVec.xor_self, BitVec.xor_zero]
  have hz : bit4 h = List.zipWith xor zero4 (bit4 h) := by simp [zero4, bit4]
  rw [← hk']
  rw [← hk'] at hk
  calc feed r (bit4 h) = feed ((r ^^^ (r >>> 28) <<< 28) ^^^ ((r >>> 28) <<< 28)) (List.zipWith xor zero4 (bit4 h)) := by rw [← e, ← hz]
    _ = feed (r ^^^ (r >>> 28) <<< 28) zero4 ^^^ feed ((r >>> 28) <<< 28) (bit4 h) := feed_lin _ _ _ _ (by simp [zero4, bit4])
    _ = (r <<< 4) ^^^ tab (k ^^^ h) := by rw [low4 _ hlo, hsl, ← hhi, tab_bits k hk h hh]

/-! ### Bytes -/
def bits8 (b : Nat) : List Bool := bit4 (b / 16) ++ bit4 (b % 16)
def byteR (r : Rg) (b : UInt8) : Rg := feed r (bits8 b.toNat)
def moreR (r : Rg) (l : List UInt8) : Rg := l.foldl byteR r
/-- The sum of bytes behind some whose sum is v. -/
def sumMore (v : Rg) (l : List UInt8) : Rg := ~~~(moreR (~~~v) l)
def sumOf (l : List UInt8) : Rg := sumMore 0#32 l
theorem moreR_append (r : Rg) (l m : List UInt8) : moreR r (l ++ m) = moreR (moreR r l) m := List.foldl_append
theorem sumMore_append (v : Rg) (l m : List UInt8) : sumMore v (l ++ m) = sumMore (sumMore v l) m := by
  unfold sumMore
  rw [moreR_append, BitVec.not_not]
theorem moreR_snoc (r : Rg) (l : List UInt8) (b : UInt8) : moreR r (l ++ [b]) = byteR (moreR r l) b := by rw [moreR_append]; rfl
theorem byteR_eq (r : Rg) (b : UInt8) : byteR r b = ((((r <<< 4) ^^^ tab ((r >>> 28).toNat ^^^ (b.toNat / 16))) <<< 4) ^^^ tab (((((r <<< 4) ^^^ tab ((r >>> 28).toNat ^^^ (b.toNat / 16))) >>> 28).toNat) ^^^ (b.toNat % 16))) := by
  have := b.toNat_lt
  unfold byteR bits8
  rw [feed_append, feed4 r _ (by omega), feed4 _ _ (by omega)]

/-- The bits of bytes. -/
def bitsL (l : List UInt8) : List Bool := l.flatMap fun b => bits8 b.toNat
theorem moreR_bits (r : Rg) (l : List UInt8) : moreR r l = feed r (bitsL l) := by
  induction l generalizing r with
  | nil => rfl
  | cons b l ih => 
    show moreR (byteR r b) l = _
    rw [ih, show bitsL (b :: l) = bits8 b.toNat ++ bitsL l from List.flatMap_cons, feed_append]
    rfl
theorem bits8_length (b : Nat) : (bits8 b).length = 8 := rfl
theorem bitsL_length (l : List UInt8) : (bitsL l).length = 8 * l.length := by
  induction l with
  | nil => rfl
  | cons b l ih => rw [bitsL, List.flatMap_cons, List.length_append, bits8_length]; unfold bitsL at ih; rw [ih]; simp; omega
theorem bitsL_append (l m : List UInt8) : bitsL (l ++ m) = bitsL l ++ bitsL m := by simp [bitsL]

/-! ### What is turned within 32 bits is seen -/
theorem step0_inj {x : Rg} (h : stepR x false = 0#32) : x = 0#32 := by
  unfold stepR at h
  by_cases hm : x.msb
  · exfalso
    have := congrArg (fun y : Rg => y.getLsbD 0) h
    rw [hm] at this
    simp [poly] at this
  · have hm' : x.msb = false := by simpa using hm
    rw [hm'] at h
    ext i hi
    rw [BitVec.getElem_zero]
    by_cases h31 : i = 31
    · subst h31
      rw [BitVec.msb_eq_getLsbD_last] at hm'
      exact hm'
    · have := congrArg (fun y : Rg => y.getLsbD (i + 1)) h
      simpa [show i + 1 < 32 by omega, BitVec.getLsbD_eq_getElem hi] using this
def zeros (n : Nat) : List Bool := List.replicate n false
theorem feed0_inj : ∀ (n : Nat) {x : Rg}, feed x (zeros n) = 0#32 → x = 0#32
  | 0, x, h => h
  | n + 1, x, h => step0_inj (feed0_inj n h)
theorem feed0_zero : ∀ (n : Nat), feed 0#32 (zeros n) = 0#32
  | 0 => rfl
  | n + 1 => by rw [zeros, List.replicate_succ, feed_cons, show stepR 0#32 false = 0#32 from rfl]; exact feed0_zero n
/-- The word of at most 32 bits, the first bit highest. -/
def topW : List Bool → Rg
  | [] => 0#32
  | b :: bs => (if b then 0x80000000#32 else 0#32) ^^^ (topW bs >>> 1)
theorem topW_bit : ∀ (bs : List Bool) (i : Nat), i < 32 → (topW bs).getLsbD (31 - i) = bs.getD i false
  | [], i, h => by simp [topW]
  | b :: bs, 0, h => by cases b <;> simp [topW]
  | b :: bs, i + 1, h => by
    have := topW_bit bs i (by omega)
    simp only [topW, BitVec.getLsbD_xor, BitVec.getLsbD_ushiftRight, List.getD_cons_succ]
    rw [show 1 + (31 - (i + 1)) = 31 - i by omega, this]
    have : (if b then 0x80000000#32 else 0#32 : Rg).getLsbD (31 - (i + 1)) = false := by
      have : ∀ j, j < 31 → (0x80000000#32 : Rg).getLsbD j = false := by decide
      cases b
      · simp
      · exact this _ (by omega)
    rw [this]; simp
theorem step_word (b : Bool) (bs : List Bool) (h : bs.length ≤ 31) (r : Rg) : stepR (r ^^^ topW (b :: bs)) false = stepR r b ^^^ topW bs := by
  have e1 : stepR (r ^^^ topW (b :: bs)) false = stepR (r ^^^ (if b then 0x80000000#32 else 0#32) ^^^ (topW bs >>> 1)) (false ^^ false) := by rw [topW, BitVec.xor_assoc]; rfl
  have hm : (topW bs >>> 1).msb = false := by rw [BitVec.msb_eq_getLsbD_last]; simp
  have hl : (topW bs).getLsbD 0 = false := by
    have := topW_bit bs 31 (by omega)
    rw [show 31 - 31 = 0 from rfl] at this
    rw [this]
    simp [List.getD, List.getElem?_eq_none h]
  have e3 : (topW bs >>> 1) <<< 1 = topW bs := by
    ext i hi
    rcases i with _ | i
    · simp at hl ⊢; exact hl
    · simp [Nat.add_comm 1 i, BitVec.getLsbD_eq_getElem hi]
  have e4 : stepR (r ^^^ (if b then 0x80000000#32 else 0#32)) false = stepR r b := by
    cases b
    · simp
    · have : stepR r true = stepR (r ^^^ 0#32) (false ^^ true) := by simp
      rw [this, step_lin, show (if true then (0x80000000#32 : Rg) else 0#32) = 0x80000000#32 from rfl]
      have h2 : stepR (r ^^^ 0x80000000#32) false = stepR (r ^^^ 0x80000000#32) (false ^^ false) := rfl
      rw [h2, step_lin]
      congr 1
  rw [e1, step_lin, e4, step_low _ hm, e3]
theorem feed_word : ∀ (bs : List Bool) (r : Rg), bs.length ≤ 32 → feed r bs = feed (r ^^^ topW bs) (zeros bs.length)
  | [], r, _ => by simp [topW, zeros]
  | b :: bs, r, h => by
    have h' : bs.length ≤ 31 := by simpa using h
    rw [feed_cons, List.length_cons, zeros, List.replicate_succ, feed_cons, step_word b bs h' r]
    exact feed_word bs _ (by omega)
theorem topW_zero {bs : List Bool} (h : bs.length ≤ 32) (h0 : topW bs = 0#32) : bs = zeros bs.length := by
  apply List.ext_getElem
  · simp [zeros]
  · intro i h1 h2
    have := topW_bit bs i (by omega)
    rw [h0] at this
    simp [List.getD, List.getElem?_eq_getElem h1] at this
    simp [zeros, this]
/-- A turning within 32 bits leads from nothing to something. -/
theorem burst (a c : Nat) (bs : List Bool) (h : bs.length ≤ 32) (hb : bs ≠ zeros bs.length) : feed 0#32 (zeros a ++ bs ++ zeros c) ≠ 0#32 := by
  intro h0
  rw [feed_append, feed_append, feed0_zero] at h0
  have h1 := feed0_inj c h0
  rw [feed_word bs _ h, BitVec.zero_xor] at h1
  exact hb (topW_zero h (feed0_inj _ h1))
/-- Bytes with four more behind lead to a fixed register just where the four are their sum. -/
theorem feed_self (r : Rg) (bs : List Bool) (h : bs.length = 32) : feed r bs = 0#32 ↔ r = topW bs := by
  rw [feed_word bs r (by omega)]
  constructor
  · intro h0
    have := feed0_inj _ h0
    have e : (r ^^^ topW bs) ^^^ topW bs = 0#32 ^^^ topW bs := by rw [this]
    rwa [BitVec.xor_assoc, BitVec.xor_self, BitVec.xor_zero, BitVec.zero_xor] at e
  · rintro rfl
    rw [BitVec.xor_self]
    exact feed0_zero _
end Go.Proofs.YtpmndmgfoiagnaaDoor
