/- What the proof of WalPlays needs, part 2. -/
import Derived.Test.YtojlldalhhibmaaGreatDoorWalPlaysJ1
import Derived.Laws.BitsAllLaws
import Derived.Test.YtojlldalhhibmaaGreatDoorProg
import Derived.Laws.OwnMore

namespace Go.Proofs.YtojlldalhhibmaaGreatDoor
set_option linter.unusedVariables false

abbrev Rg := BitVec 32
def poly : Rg := 0x04c11db7#32
/-- One bit further on. -/
def stepR (r : Rg) (b : Bool) : Rg := (r <<< 1) ^^^ (if (r.msb ^^ b) then poly else 0#32)
def feed (r : Rg) (bs : List Bool) : Rg := bs.foldl stepR r
theorem feed_nil (r : Rg) : feed r [] = r := rfl
theorem feed_cons (r : Rg) (b : Bool) (bs : List Bool) : feed r (b :: bs) = feed (stepR r b) bs := rfl
theorem feed_append (r : Rg) (bs cs : List Bool) : feed r (bs ++ cs) = feed (feed r bs) cs := List.foldl_append

theorem poly_lin (x y : Bool) : (if (x ^^ y) then poly else 0#32) = (if x then poly else 0#32) ^^^ (if y then poly else 0#32) := by
  cases x <;> cases y <;> simp
theorem step_lin (a c : Rg) (x y : Bool) : stepR (a ^^^ c) (x ^^ y) = stepR a x ^^^ stepR c y := by
  unfold stepR
  rw [BitVec.msb_xor, BitVec.shiftLeft_xor_distrib, show ((a.msb ^^ c.msb) ^^ (x ^^ y)) = ((a.msb ^^ x) ^^ (c.msb ^^ y)) from by cases a.msb <;> cases c.msb <;> cases x <;> cases y <;> rfl, poly_lin]
  ac_rfl
theorem feed_lin : ∀ (xs ys : List Bool) (a c : Rg), xs.length = ys.length → feed (a ^^^ c) (List.zipWith xor xs ys) = feed a xs ^^^ feed c ys
  | [], [], a, c, _ => rfl
  | x :: xs, y :: ys, a, c, h => by
    rw [List.zipWith_cons_cons, feed_cons, step_lin, feed_lin xs ys _ _ (by simpa using h)]
    rfl

/-! ### Four bits at once -/
def bit4 (h : Nat) : List Bool := [h.testBit 3, h.testBit 2, h.testBit 1, h.testBit 0]
def zero4 : List Bool := [false, false, false, false]
def tab (i : Nat) : Rg := feed (BitVec.ofNat 32 (i <<< 28)) zero4

theorem step_low (x : Rg) (h : x.msb = false) : stepR x false = x <<< 1 := by
  unfold stepR
  simp [h]
theorem low4 (x : Rg) (h : x >>> 28 = 0#32) : feed x zero4 = x <<< 4 := by
  have hb : ∀ i, i < 4 → x.getLsbD (28 + i) = false := by
    intro i hi
    have := congrArg (fun y : Rg => y.getLsbD i) h
    simpa using this
  have h0 := hb 0 (by omega)
  have h1 := hb 1 (by omega)
  have h2 := hb 2 (by omega)
  have h3 := hb 3 (by omega)
  have e1 : stepR x false = x <<< 1 := step_low x (by rw [BitVec.msb_eq_getLsbD_last]; exact h3)
  have e2 : stepR (x <<< 1) false = x <<< 2 := by
    rw [step_low _ (by rw [BitVec.msb_eq_getLsbD_last]; simpa using h2), ← BitVec.shiftLeft_add]
  have e3 : stepR (x <<< 2) false = x <<< 3 := by
    rw [step_low _ (by rw [BitVec.msb_eq_getLsbD_last]; simpa using h1), ← BitVec.shiftLeft_add]
  have e4 : stepR (x <<< 3) false = x <<< 4 := by
    rw [step_low _ (by rw [BitVec.msb_eq_getLsbD_last]; simpa using h0), ← BitVec.shiftLeft_add]
  simp only [zero4, feed_cons, feed_nil, e1, e2, e3, e4]

theorem tab_bits : ∀ k, k < 16 → ∀ h, h < 16 → feed (BitVec.ofNat 32 (k <<< 28)) (bit4 h) = tab (k ^^^ h) := by decide +kernel

theorem feed4 (r : Rg) (h : Nat) (hh : h < 16) : feed r (bit4 h) = (r <<< 4) ^^^ tab ((r >>> 28).toNat ^^^ h) := by
  have hk : (r >>> 28).toNat < 16 := by
    have := r.isLt
    rw [BitVec.toNat_ushiftRight, Nat.shiftRight_eq_div_pow]
    omega
  obtain ⟨k, hk'⟩ : ∃ k, k = (r >>> 28).toNat := ⟨_, rfl⟩
  have hhi : BitVec.ofNat 32 (k <<< 28) = (r >>> 28) <<< 28 := by
    apply BitVec.eq_of_toNat_eq
    rw [hk', BitVec.toNat_ofNat, BitVec.toNat_shiftLeft]
  have hlo : (r ^^^ (r >>> 28) <<< 28) >>> 28 = 0#32 := by
    ext i hi
    simp only [BitVec.getElem_ushiftRight, BitVec.getLsbD_xor, BitVec.getLsbD_shiftLeft, BitVec.getLsbD_ushiftRight, BitVec.getElem_zero]
    by_cases h : i < 4
    · simp [show 28 + i < 32 by omega]
    · have h1 : r.getLsbD (28 + i) = false := BitVec.getLsbD_of_ge r _ (by omega)
      have h3 : ¬ 28 + i < 32 := by omega
      simp [h1, h3]
  have hsl : (r ^^^ (r >>> 28) <<< 28) <<< 4 = r <<< 4 := by
    ext i hi
    simp only [BitVec.getElem_shiftLeft, BitVec.getElem_xor]
    by_cases h : i < 4
    · simp [h]
    · have : i - 4 < 28 := by omega
      simp [h, this]
  have e : r = (r ^^^ (r >>> 28) <<< 28) ^^^ ((r >>> 28) <<< 28) := by
    rw [BitVec.xor_assoc, BitVec.xor_self, BitVec.xor_zero]
  have hz : bit4 h = List.zipWith xor zero4 (bit4 h) := by simp [zero4, bit4]
  rw [← hk']
  rw [← hk'] at hk
  calc feed r (bit4 h) = feed ((r ^^^ (r >>> 28) <<< 28) ^^^ ((r >>> 28) <<< 28)) (List.zipWith xor zero4 (bit4 h)) := by rw [← e, ← hz]
    _ = feed (r ^^^ (r >>> 28) <<< 28) zero4 ^^^ feed ((r >>> 28) <<< 28) (bit4 h) := feed_lin _ _ _ _ (by simp [zero4, bit4])
    _ = (r <<< 4) ^^^ tab (k ^^^ h) := by rw [low4 _ hlo, hsl, ← hhi, tab_bits k hk h hh]

/-! ### Bytes -/
def bits8 (b : Nat) : List Bool := bit4 (b / 16) ++ bit4 (b % 16)
def byteR (r : Rg) (b : UInt8) : Rg := feed r (bits8 b.toNat)
def moreR (r : Rg) (l : List UInt8) : Rg := l.foldl byteR r
/-- The sum of bytes behind some whose sum is v. -/
def sumMore (v : Rg) (l : List UInt8) : Rg := ~~~(moreR (~~~v) l)
def sumOf (l : List UInt8) : Rg := sumMore 0#32 l
theorem moreR_append (r : Rg) (l m : List UInt8) : moreR r (l ++ m) = moreR (moreR r l) m := List.foldl_append
theorem sumMore_append (v : Rg) (l m : List UInt8) : sumMore v (l ++ m) = sumMore (sumMore v l) m := by
  unfold sumMore
  rw [moreR_append, BitVec.not_not]
theorem moreR_snoc (r : Rg) (l : List UInt8) (b : UInt8) : moreR r (l ++ [b]) = byteR (moreR r l) b := by rw [moreR_append]; rfl
theorem byteR_eq (r : Rg) (b : UInt8) : byteR r b = ((((r <<< 4) ^^^ tab ((r >>> 28).toNat ^^^ (b.toNat / 16))) <<< 4) ^^^ tab (((((r <<< 4) ^^^ tab ((r >>> 28).toNat ^^^ (b.toNat / 16))) >>> 28).toNat) ^^^ (b.toNat % 16))) := by
  have := b.toNat_lt
  unfold byteR bits8
  rw [feed_append, feed4 r _ (by omega), feed4 _ _ (by omega)]

/-- The bits of bytes. -/
def bitsL (l : List UInt8) : List Bool := l.flatMap fun b => bits8 b.toNat
theorem moreR_bits (r : Rg) (l : List UInt8) : moreR r l = feed r (bitsL l) := by
  induction l generalizing r with
  | nil => rfl
  | cons b l ih => 
    show moreR (byteR r b) l = _
    rw [ih, show bitsL (b :: l) = bits8 b.toNat ++ bitsL l from List.flatMap_cons, feed_append]
    rfl
theorem bits8_length (b : Nat) : (bits8 b).length = 8 := rfl
theorem bitsL_length (l : List UInt8) : (bitsL l).length = 8 * l.length := by
  induction l with
  | nil => rfl
  | cons b l ih => rw [bitsL, List.flatMap_cons, List.length_append, bits8_length]; unfold bitsL at ih; rw [ih]; simp; omega
theorem bitsL_append (l m : List UInt8) : bitsL (l ++ m) = bitsL l ++ bitsL m := by simp [bitsL]

/-! ### What is turned within 32 bits is seen -/
theorem step0_inj {x : Rg} (h : stepR x false = 0#32) : x = 0#32 := by
  unfold stepR at h
  by_cases hm : x.msb
  · exfalso
    have := congrArg (fun y : Rg => y.getLsbD 0) h
    rw [hm] at this
    simp [poly] at this
  · have hm' : x.msb = false := by simpa using hm
    rw [hm'] at h
    ext i hi
    rw [BitVec.getElem_zero]
    by_cases h31 : i = 31
    · subst h31
      rw [BitVec.msb_eq_getLsbD_last] at hm'
      exact hm'
    · have := congrArg (fun y : Rg => y.getLsbD (i + 1)) h
      simpa [show i + 1 < 32 by omega, BitVec.getLsbD_eq_getElem hi] using this
def zeros (n : Nat) : List Bool := List.replicate n false
theorem feed0_inj : ∀ (n : Nat) {x : Rg}, feed x (zeros n) = 0#32 → x = 0#32
  | 0, x, h => h
  | n + 1, x, h => step0_inj (feed0_inj n h)
theorem feed0_zero : ∀ (n : Nat), feed 0#32 (zeros n) = 0#32
  | 0 => rfl
  | n + 1 => by rw [zeros, List.replicate_succ, feed_cons, show stepR 0#32 false = 0#32 from rfl]; exact feed0_zero n
/-- The word of at most 32 bits, the first bit highest. -/
def topW : List Bool → Rg
  | [] => 0#32
  | b :: bs => (if b then 0x80000000#32 else 0#32) ^^^ (topW bs >>> 1)
theorem topW_bit : ∀ (bs : List Bool) (i : Nat), i < 32 → (topW bs).getLsbD (31 - i) = bs.getD i false
  | [], i, h => by simp [topW]
  | b :: bs, 0, h => by cases b <;> simp [topW]
  | b :: bs, i + 1, h => by
    have := topW_bit bs i (by omega)
    simp only [topW, BitVec.getLsbD_xor, BitVec.getLsbD_ushiftRight, List.getD_cons_succ]
    rw [show 1 + (31 - (i + 1)) = 31 - i by omega, this]
    have : (if b then 0x80000000#32 else 0#32 : Rg).getLsbD (31 - (i + 1)) = false := by
      have : ∀ j, j < 31 → (0x80000000#32 : Rg).getLsbD j = false := by decide
      cases b
      · simp
      · exact this _ (by omega)
    rw [this]; simp
theorem step_word (b : Bool) (bs : List Bool) (h : bs.length ≤ 31) (r : Rg) : stepR (r ^^^ topW (b :: bs)) false = stepR r b ^^^ topW bs := by
  have e1 : stepR (r ^^^ topW (b :: bs)) false = stepR (r ^^^ (if b then 0x80000000#32 else 0#32) ^^^ (topW bs >>> 1)) (false ^^ false) := by rw [topW, BitVec.xor_assoc]; rfl
  have hm : (topW bs >>> 1).msb = false := by rw [BitVec.msb_eq_getLsbD_last]; simp
  have hl : (topW bs).getLsbD 0 = false := by
    have := topW_bit bs 31 (by omega)
    rw [show 31 - 31 = 0 from rfl] at this
    rw [this]
    simp [List.getD, List.getElem?_eq_none h]
  have e3 : (topW bs >>> 1) <<< 1 = topW bs := by
    ext i hi
    rcases i with _ | i
    · simp at hl ⊢; exact hl
    · simp [Nat.add_comm 1 i, BitVec.getLsbD_eq_getElem hi]
  have e4 : stepR (r ^^^ (if b then 0x80000000#32 else 0#32)) false = stepR r b := by
    cases b
    · simp
    · have : stepR r true = stepR (r ^^^ 0#32) (false ^^ true) := by simp
      rw [this, step_lin, show (if true then (0x80000000#32 : Rg) else 0#32) = 0x80000000#32 from rfl]
      have h2 : stepR (r ^^^ 0x80000000#32) false = stepR (r ^^^ 0x80000000#32) (false ^^ false) := rfl
      rw [h2, step_lin]
      congr 1
  rw [e1, step_lin, e4, step_low _ hm, e3]
theorem feed_word : ∀ (bs : List Bool) (r : Rg), bs.length ≤ 32 → feed r bs = feed (r ^^^ topW bs) (zeros bs.length)
  | [], r, _ => by simp [topW, zeros]
  | b :: bs, r, h => by
    have h' : bs.length ≤ 31 := by simpa using h
    rw [feed_cons, List.length_cons, zeros, List.replicate_succ, feed_cons, step_word b bs h' r]
    exact feed_word bs _ (by omega)
theorem topW_zero {bs : List Bool} (h : bs.length ≤ 32) (h0 : topW bs = 0#32) : bs = zeros bs.length := by
  apply List.ext_getElem
  · simp [zeros]
  · intro i h1 h2
    have := topW_bit bs i (by omega)
    rw [h0] at this
    simp [List.getD, List.getElem?_eq_getElem h1] at this
    simp [zeros, this]
/-- A turning within 32 bits leads from nothing to something. -/
theorem burst (a c : Nat) (bs : List Bool) (h : bs.length ≤ 32) (hb : bs ≠ zeros bs.length) : feed 0#32 (zeros a ++ bs ++ zeros c) ≠ 0#32 := by
  intro h0
  rw [feed_append, feed_append, feed0_zero] at h0
  have h1 := feed0_inj c h0
  rw [feed_word bs _ h, BitVec.zero_xor] at h1
  exact hb (topW_zero h (feed0_inj _ h1))
/-- Bytes with four more behind lead to a fixed register just where the four are their sum. -/
theorem feed_self (r : Rg) (bs : List Bool) (h : bs.length = 32) : feed r bs = 0#32 ↔ r = topW bs := by
  rw [feed_word bs r (by omega)]
  constructor
  · intro h0
    have := feed0_inj _ h0
    have e : (r ^^^ topW bs) ^^^ topW bs = 0#32 ^^^ topW bs := by rw [this]
    rwa [BitVec.xor_assoc, BitVec.xor_self, BitVec.xor_zero, BitVec.zero_xor] at e
  · rintro rfl
    rw [BitVec.xor_self]
    exact feed0_zero _
end Go.Proofs.YtojlldalhhibmaaGreatDoor

namespace Go.Proofs.YtojlldalhhibmaaGreatDoor
open Go Go.RowKit
set_option linter.unusedVariables false

/-- A register's value. -/
abbrev rv (r : Rg) : Value := .int .u32 (r.toNat : Int)
theorem rg_lt (r : Rg) : r.toNat < 4294967296 := r.isLt

theorem rg_dbl (r : Rg) : ((r.toNat : Int) * (2 : Int) % (4294967296 : Int)) = ((r <<< 1).toNat : Int) := by
  rw [BitVec.toNat_shiftLeft]
  simp [Nat.shiftLeft_eq]
theorem rg_top (r : Rg) : ((r.toNat : Int) / 2147483648 == 1) = r.msb := by
  have := rg_lt r
  rw [BitVec.msb_eq_decide, Bool.eq_iff_iff, beq_iff_eq, decide_eq_true_eq]
  omega
theorem rg_xor (a c : Rg) : bits .xor .u32 (a.toNat : Int) (c.toNat : Int) = ((a ^^^ c).toNat : Int) := by
  rw [u32_xor_nat _ _ (rg_lt a) (rg_lt c), BitVec.toNat_xor]
theorem rg_poly (r : Rg) : bits .xor .u32 (r.toNat : Int) 79764919 = ((r ^^^ poly).toNat : Int) := rg_xor r poly

set_option maxHeartbeats 400000 in
theorem step_any (r : Rg) (b : Bool) (w : World) :
    Calls Tryz.prog 102 #[rv r, .bool b] w fun e w' => e = .returned (rv (stepR r b)) ∧ w = w' := by
  have H : Hid (stepR r b = (r <<< 1) ^^^ (if (r.msb ^^ b) then poly else 0#32)) := rfl
  have ht := rg_top r
  have hr := rg_lt r
  cases hm : r.msb <;> cases b
  all_goals
    rw [hm] at ht H
    go_enter Tryz.func102, Tryz.ntmps102
    go_wp2_with fail
    go_ret
    rw [H.out]
    refine ⟨?_, rfl⟩
    have hd := rg_dbl r
    rw [hd]
    first | (rw [rg_poly]; rfl) | (simp; done)

theorem rg_shl28 (i : Nat) (h : i < 16) : ((i : Int) * (268435456 : Int)) = ((BitVec.ofNat 32 (i <<< 28)).toNat : Int) := by
  rw [BitVec.toNat_ofNat, Nat.shiftLeft_eq]
  omega
theorem feed_zeros_succ (r : Rg) (k : Nat) : feed r (zeros (k + 1)) = stepR (feed r (zeros k)) false := by
  rw [zeros, List.replicate_succ', feed_append]; rfl

set_option maxHeartbeats 400000 in
theorem tset_any (g i : Nat) (cs : Array Value) (w : World) (hi : i < 16) (hcs : cs.size = 16) (hb : Blk w g 185 cs) :
    Calls Tryz.prog 101 #[.int .i64 i, .pointer (some ⟨g, 0, none⟩)] w fun e w' => e = .returned (.tuple #[]) ∧ w' = w.setCell ⟨g, i, none⟩ (rv (tab i)) := by
  go_enter Tryz.func101, Tryz.ntmps101
  go_wp2_with fail
  go_loop [3, 7] (fun rvv kv => ∃ k : Nat, k ≤ 4 ∧ kv = .int .i64 k ∧ rvv = rv (feed (BitVec.ofNat 32 (i <<< 28)) (zeros k))) (fun _ kv => 4 - (intOf kv).toNat)
  case atStart => exact ⟨0, by omega, rfl, by rw [rg_shl28 i hi]; rfl⟩
  case round =>
    obtain ⟨k, hk, rfl, rfl⟩ := hrel
    by_cases hlt : k < 4
    · have H := Lib.hid (feed_zeros_succ (BitVec.ofNat 32 (i <<< 28)) k)
      go_wp2_with (go_at_call 102; refine (step_any _ _ _).mono ?_; rintro e w' ⟨rfl, rfl⟩)
      go_round
      case rel => exact ⟨k + 1, by omega, by go_num, by rw [H.out]⟩
      case measure => simp [intOf]; omega
    · obtain rfl : k = 4 := by omega
      have hc := hb.cell i
      have hf := hb.free i
      rw [Array.getElem?_eq_getElem (by omega)] at hc
      go_wp2_with fail
      go_end0
      exact ⟨rfl, rfl⟩

/-- The table, i entries laid. -/
def tabC (i : Nat) : Array Value := (Array.range 16).map fun j => if j < i then rv (tab j) else .int .u32 0
theorem tabC_size (i : Nat) : (tabC i).size = 16 := by simp [tabC]
theorem tabC_set (i : Nat) (h : i < 16) : (tabC i).setIfInBounds i (rv (tab i)) = tabC (i + 1) := by
  apply Array.ext
  · simp [tabC]
  · intro j h1 h2
    have hj : j < 16 := by simpa [tabC] using h2
    rw [Array.getElem_setIfInBounds (by simpa using h1)]
    by_cases e : i = j
    · subst e; simp [tabC]
    · rw [if_neg e]
      simp only [tabC, Array.getElem_map, Array.getElem_range]
      by_cases hl : j < i
      · rw [if_pos hl, if_pos (by omega)]
      · rw [if_neg hl, if_neg (by omega)]
theorem tabC_at (j : Nat) (h : j < 16) : (tabC 16)[j]? = some (rv (tab j)) := by
  rw [Array.getElem?_eq_getElem (by rw [tabC_size]; exact h)]
  simp [tabC, h]
theorem tabC_zero : tabC 0 = #[.int .u32 0, .int .u32 0, .int .u32 0, .int .u32 0, .int .u32 0, .int .u32 0, .int .u32 0, .int .u32 0, .int .u32 0, .int .u32 0, .int .u32 0, .int .u32 0, .int .u32 0, .int .u32 0, .int .u32 0, .int .u32 0] := by
  simp [tabC, ← Array.toList_inj, List.range_succ]
theorem tabC_one (i : Nat) : (tabC i).all (·.oneCell') = true := by
  rw [Array.all_eq_true]
  intro j h
  simp only [tabC, Array.getElem_map, Array.getElem_range]
  split <;> rfl
/-- The table as a value. -/
def tabV : Value := .agg (tabC 16)
theorem infoTab (i : Nat) : (Tryz.prog.info? 185).map (·.size) = some (tabC i).size := by rw [tabC_size]; kernel_rfl
theorem Blk.setRow {w : World} {g : Nat} {t : TypeId} {cs : Array Value} (h : Blk w g t cs) (ds : Array Value) : Blk (w.setRow g ds) g t ds := by
  unfold Blk at h ⊢
  simp [World.setRow, Array.getElem?_modify, h]
theorem below_setRow {B g : Nat} {w w' : World} (h : Below B w w') (hg : B ≤ g) (ds : Array Value) : Below B w (w'.setRow g ds) := by
  refine h.trans ⟨rfl, rfl, rfl, by simp, fun k hk => ?_⟩
  simp only [World.setRow, Array.getElem?_modify]
  rw [if_neg (by omega)]

set_option maxHeartbeats 400000 in
set_option maxRecDepth 100000 in
theorem table_any (w : World) :
    Calls Tryz.prog 99 #[] w fun e w' => e = .returned tabV ∧ Below w.heap.size w w' := by
  have hmf := run_makeFunc Tryz.prog
  go_enter Tryz.func99, Tryz.ntmps99
  go_wp2_with fail
  rw [← tabC_zero]
  have R0 : Blk ((w.alloc (.cells (tabC 0) 185)).alloc (.cells (tabC 0) 185)) (w.heap.size + 1) 185 (tabC 0) ∧
      Blk ((w.alloc (.cells (tabC 0) 185)).alloc (.cells (tabC 0) 185)) w.heap.size 185 (tabC 0) ∧
      Below w.heap.size w ((w.alloc (.cells (tabC 0) 185)).alloc (.cells (tabC 0) 185)) := by
    refine ⟨?_, (Blk.new w _ _).alloc _, ((Below.refl _ _).alloc (Nat.le_refl _) _).alloc (by simp) _⟩
    have := Blk.new (w.alloc (.cells (tabC 0) 185)) 185 (tabC 0)
    simpa using this
  generalize ((w.alloc (.cells (tabC 0) 185)).alloc (.cells (tabC 0) 185)) = w2 at *
  go_loopw [5] (fun iv wr => ∃ i : Nat, iv = .int .i64 (i : Int) ∧ i ≤ 16 ∧ Blk wr (w.heap.size + 1) 185 (tabC i) ∧ Blk wr w.heap.size 185 (tabC 0) ∧ Below w.heap.size w wr) (fun iv _ => 16 - (intOf iv).toNat)
  case atStart => exact ⟨0, rfl, by omega, R0⟩
  case round =>
    obtain ⟨i, rfl, hi, hb1, hb0, hbl⟩ := hrel
    clear R0
    by_cases hlt : i < 16
    · go_wp2_with fail
      refine (tset_any (w.heap.size + 1) i (tabC i) wr hlt (tabC_size _) hb1).mono ?_
      rintro e w3 ⟨rfl, rfl⟩
      go_wp2
      go_roundw
      case rel => exact ⟨i + 1, by go_num, by omega, by rw [← tabC_set i hlt]; exact hb1.put i _, hb0.far (by simp) _, hbl.setCell (by simp) _⟩
      case measure => simp [intOf]; omega
    · obtain rfl : i = 16 := by omega
      have hu := Tryz.underlying185
      go_wp2_with (first | (refine wpList_load_row rfl _ (.tmp 1) rfl (w.heap.size + 1) rfl _ (tabC 16) _ _ hb1 hu rfl (infoTab 16) ?_) | (refine wpList_store_row rfl _ (.tmp 0) (.tmp 12) rfl w.heap.size (tabC 16) rfl rfl _ (tabC 0) hb0 (infoTab 16) (by simp [tabC_size]) (tabC_one 16) ?_))
      exact bodyPost_ret (v := tabV) (results_cell_row rfl _ _ w.heap.size _ (tabC 16) _ _ rfl (hb0.setRow _) hu rfl (infoTab 16)) rfl ⟨rfl, below_setRow hbl (Nat.le_refl _) _⟩

theorem rg_not (r : Rg) : bits .xor .u32 IntKind.u32.max (r.toNat : Int) = ((~~~r).toNat : Int) := by
  rw [show IntKind.u32.max = (((BitVec.allOnes 32 : Rg).toNat : Nat) : Int) from rfl, rg_xor]
  congr 2
theorem and15 (x : Nat) (hx : x < 256) : bits .and .u8 (x : Int) 15 = ((x % 16 : Nat) : Int) := by
  have h := u8_and_nat x 15 hx (by omega)
  rw [show x &&& 15 = x % 16 from Nat.and_two_pow_sub_one_eq_mod x 4] at h
  exact h
theorem nib_lt (r : Rg) (h : Nat) (hh : h < 16) : (r >>> 28).toNat ^^^ h < 16 := by
  have hk : (r >>> 28).toNat < 16 := by
    have := r.isLt
    rw [BitVec.toNat_ushiftRight, Nat.shiftRight_eq_div_pow]
    exact Nat.div_lt_of_lt_mul this
  exact Nat.xor_lt_two_pow (n := 4) hk hh
theorem nib_xor (r : Rg) (h : Nat) (hh : h < 16) : bits .xor .u32 ((r.toNat : Int) / (268435456 : Int)) (h : Int) = (((r >>> 28).toNat ^^^ h : Nat) : Int) := by
  have e : ((r.toNat : Int) / (268435456 : Int)) = (((r >>> 28).toNat : Nat) : Int) := by
    rw [BitVec.toNat_ushiftRight, Nat.shiftRight_eq_div_pow]
    omega
  have := rg_lt (r >>> 28)
  rw [e, u32_xor_nat _ _ this (by omega)]
theorem rg_shl4 (r : Rg) : ((r.toNat : Int) * (16 : Int) % (4294967296 : Int)) = ((r <<< 4).toNat : Int) := by
  rw [BitVec.toNat_shiftLeft]
  simp [Nat.shiftLeft_eq]

set_option maxHeartbeats 400000 in
set_option maxRecDepth 100000 in
theorem more_any (S : Nat → Prop) (v0 : Value) (v : Rg) (l : List UInt8) (w : World) (hl : l.length ≤ 1099511627776) (hr : Bs S w v0 l) :
    Calls Tryz.prog 94 #[rv v, v0] w fun e w' => e = .returned (rv (sumMore v l)) ∧ Below w.heap.size w w' := by
  have HR := Lib.hid ((Sl.lt hr (by omega)).more (fun _ h => h.2))
  obtain ⟨A, c, rfl, hlc, hcm, hA0, hA⟩ := hr.at
  clear hA hr hA0
  go_enter Tryz.func94, Tryz.ntmps94
  go_wp2_with fail
  refine (table_any w).mono ?_
  rintro e w1 ⟨rfl, hbl1⟩
  have hr1 := Sl.below HR.out hbl1 (fun _ h => h)
  have hs1 := hbl1.size
  unfold tabV
  go_wp2_with (refine wpList_store_row rfl _ (.tmp 5) (.tmp 9) rfl w1.heap.size (tabC 16) rfl rfl _ _ (Blk.new w1 _ _) (infoTab 16) (by simp [tabC_size]) (tabC_one 16) ?_)
  have B1 : Blk ((w1.alloc (.cells #[.int .u32 0, .int .u32 0, .int .u32 0, .int .u32 0, .int .u32 0, .int .u32 0, .int .u32 0, .int .u32 0, .int .u32 0, .int .u32 0, .int .u32 0, .int .u32 0, .int .u32 0, .int .u32 0, .int .u32 0, .int .u32 0] 185)).setRow w1.heap.size (tabC 16)) w1.heap.size 185 (tabC 16) := (Blk.new _ _ _).setRow _
  have hbl2 : Below w.heap.size w ((w1.alloc (.cells #[.int .u32 0, .int .u32 0, .int .u32 0, .int .u32 0, .int .u32 0, .int .u32 0, .int .u32 0, .int .u32 0, .int .u32 0, .int .u32 0, .int .u32 0, .int .u32 0, .int .u32 0, .int .u32 0, .int .u32 0, .int .u32 0] 185)).setRow w1.heap.size (tabC 16)) := below_setRow (hbl1.alloc hs1 _) hs1 _
  have hr2 : Bs (fun b => b < w.heap.size) _ _ l := Sl.below HR.out hbl2 (fun _ h => h)
  clear hr1 HR hbl1
  generalize ((w1.alloc _).setRow _ _) = w2 at *
  obtain ⟨_, _, hv, _, _, _, hA⟩ := hr2.at
  injection hv with e1 _ e2
  subst e1 e2
  have HA := Lib.hid hA
  clear hA hr2
  go_loop [6, 14] (fun rvv iv => ∃ (i : Nat) (r : Rg), iv = .int .i64 (i : Int) ∧ i ≤ l.length ∧ rvv = rv r ∧ Hid (r = moreR (~~~v) (l.take i))) (fun _ iv => l.length - (intOf iv).toNat)
  case atStart => exact ⟨0, ~~~v, rfl, by omega, by rw [rg_not], rfl⟩
  case round =>
    obtain ⟨i, r, rfl, hi, rfl, hrm⟩ := hrel
    by_cases hil : i < l.length
    · obtain ⟨b, o, rfl, _, hcell⟩ := HA.out (by omega)
      have hc := hcell i hil
      clear hcell HA
      have HS : Hid (byteR r l[i] = moreR (~~~v) (l.take (i + 1))) := by
        rw [Hid, List.take_succ_eq_append_getElem hil, moreR_snoc, hrm.out]
      have HQ := Lib.hid (byteR_eq r l[i])
      obtain ⟨x, hx⟩ : ∃ x, x = l[i].toNat := ⟨_, rfl⟩
      have hx256 : x < 256 := hx ▸ l[i].toNat_lt
      rw [← hx] at hc HQ
      have n1 := nib_xor r (x / 16) (by omega)
      have n1l := nib_lt r (x / 16) (by omega)
      generalize (r >>> 28).toNat ^^^ (x / 16) = k1 at *
      have c1 := (B1.cell k1).trans (tabC_at k1 n1l)
      have x1 := rg_xor (r <<< 4) (tab k1)
      rw [← rg_shl4] at x1
      generalize (r <<< 4) ^^^ tab k1 = r1 at *
      have n2 := nib_xor r1 (x % 16) (by omega)
      have n2l := nib_lt r1 (x % 16) (by omega)
      generalize (r1 >>> 28).toNat ^^^ (x % 16) = k2 at *
      have c2 := (B1.cell k2).trans (tabC_at k2 n2l)
      have x2 := rg_xor (r1 <<< 4) (tab k2)
      rw [← rg_shl4] at x2
      generalize (r1 <<< 4) ^^^ tab k2 = r2 at *
      have HR2 : Hid (r2 = moreR (~~~v) (l.take (i + 1))) := by rw [Hid, ← HS.out, HQ.out]
      have a15 := and15 x hx256
      rw [show ((x / 16 : Nat) : Int) = (x : Int) / (16 : Int) by omega] at n1
      rw [show ((x % 16 : Nat) : Int) = (x : Int) % (16 : Int) by omega] at n2 a15
      have l1 := rg_lt r
      have l2 := rg_lt r1
      have l3 := rg_lt r2
      clear hx HS HQ
      go_wp2_with fail
      go_round
      case rel => exact ⟨i + 1, r2, by go_num, by omega, rfl, HR2⟩
      case measure => simp [intOf]; omega
    · obtain rfl : i = l.length := by omega
      have HR2 := hrm.out
      rw [List.take_length] at HR2
      have HR3 := Lib.hid HR2
      clear HR2
      go_wp2_with fail
      go_ret
      refine ⟨?_, hbl2⟩
      rw [rg_not, HR3.out]
      rfl

set_option maxHeartbeats 400000 in
theorem of_any (S : Nat → Prop) (v0 : Value) (l : List UInt8) (w : World) (hl : l.length ≤ 1099511627776) (hr : Bs S w v0 l) :
    Calls Tryz.prog 81 #[v0] w fun e w' => e = .returned (rv (sumOf l)) ∧ Below w.heap.size w w' := by
  have HR := Lib.hid hr
  obtain ⟨A, c, rfl, hlc, hcm, hA0, hA⟩ := hr.at
  clear hA hr hA0
  go_enter Tryz.func81, Tryz.ntmps81
  go_wp2_with fail
  refine (more_any _ _ 0#32 l w hl HR.out).mono ?_
  rintro e w1 ⟨rfl, hbl1⟩
  go_wp2_with fail
  go_ret
  exact ⟨rfl, hbl1⟩

theorem sum4 (r : Rg) : (r.toNat : Nat) < 256 ^ 4 := r.isLt

set_option maxHeartbeats 400000 in
theorem seal_any (S : Nat → Prop) (v0 : Value) (l : List UInt8) (w : World) (hb : BitsOk w) (hl : l.length ≤ 1099511627776) (hr : Bs S w v0 l) :
    Calls Tryz.prog 61 #[v0] w fun e w' => ∃ A k c, e = .returned (.slice A k c) ∧ Ob 5 w' w.heap.size (.slice A k c) (l ++ beB (sumOf l).toNat 4) ∧ Below w.heap.size w w' := by
  have HR := Lib.hid ((Sl.lt hr (by omega)).more (fun _ h => h.2))
  have HB := Lib.hid hb
  obtain ⟨A, c, rfl, hlc, hcm, hA0, hA⟩ := hr.at
  have HR0 := Lib.hid hr
  clear hA hr hA0 hb
  have hs := rg_lt (sumOf l)
  go_enter Tryz.func61, Tryz.ntmps61
  go_wp2_with fail
  refine (of_any _ _ l w hl HR0.out).mono ?_
  rintro e w1 ⟨rfl, hbl1⟩
  have hr1 := Sl.below HR.out hbl1 (fun _ h => h)
  have HR1 := Lib.hid hr1
  clear hr1
  go_wp2_with fail
  refine (put_ok _ _ l (sumOf l).toNat 4 w1 (by omega) (by omega) (by unfold U64; omega) (fun _ => by omega) (HB.out.later hbl1) hl HR1.out).mono ?_
  rintro e w2 ⟨A2, k2, c2, rfl, hown, hbl2⟩
  go_wp2_with fail
  go_ret
  exact ⟨A2, k2, c2, rfl, hown.lower hbl1.size, hbl1.trans (hbl2.mono hbl1.size)⟩
end Go.Proofs.YtojlldalhhibmaaGreatDoor

namespace Go.Proofs.YtojlldalhhibmaaGreatDoor
open Go Go.RowKit
theorem tS : Tryz.prog.underlying 9 = some .string := Tryz.underlying9
theorem tB : Tryz.prog.underlying 73 = some (.slice 5) := Tryz.underlying73
theorem tU : Tryz.prog.underlying 5 = some (.int .u8) := Tryz.underlying5
end Go.Proofs.YtojlldalhhibmaaGreatDoor

namespace Go.Proofs.YtojlldalhhibmaaGreatDoor
open Go Go.RowKit
set_option linter.unusedVariables false


theorem xor_next (a b i : Nat) : (a ^^^ b) % 2 ^ (i + 1) = (a ^^^ b) % 2 ^ i + (if a / 2 ^ i % 2 = b / 2 ^ i % 2 then 0 else 2 ^ i) := by
  rw [Nat.pow_succ, Nat.mod_mul]
  congr 1
  have ea : a.testBit i = decide (a / 2 ^ i % 2 = 1) := Nat.testBit_eq_decide_div_mod_eq
  have eb : b.testBit i = decide (b / 2 ^ i % 2 = 1) := Nat.testBit_eq_decide_div_mod_eq
  have ex : (a ^^^ b).testBit i = decide ((a ^^^ b) / 2 ^ i % 2 = 1) := Nat.testBit_eq_decide_div_mod_eq
  rw [Nat.testBit_xor, ea, eb] at ex
  have h1 := Nat.mod_two_eq_zero_or_one (a / 2 ^ i)
  have h2 := Nat.mod_two_eq_zero_or_one (b / 2 ^ i)
  have h3 := Nat.mod_two_eq_zero_or_one ((a ^^^ b) / 2 ^ i)
  rcases h1 with h1 | h1 <;> rcases h2 with h2 | h2 <;> rcases h3 with h3 | h3 <;> rw [h1, h2, h3] at ex <;> rw [h1, h2, h3] <;> simp at ex ⊢

set_option maxHeartbeats 400000 in
theorem turned_any (a b : Nat) (w : World) (ha : a < 4294967296) (hb : b < 4294967296) :
    Calls Tryz.prog 100 #[.int .u64 (a : Int), .int .u64 (b : Int)] w fun e w' => e = .returned (.int .u64 ((a ^^^ b : Nat) : Int)) ∧ w = w' := by
  go_enter Tryz.func100, Tryz.ntmps100
  go_wp2_with fail
  go_loop [0, 1, 5, 6, 7] (fun av bv ov pv iv => ∃ A B O P i : Nat, av = .int .u64 (A : Int) ∧ bv = .int .u64 (B : Int) ∧ ov = .int .u64 (O : Int) ∧ pv = .int .u64 (P : Int) ∧ iv = .int .i64 (i : Int) ∧ A < 4294967296 ∧ B < 4294967296 ∧ O ≤ 4294967296 ∧ P ≤ 4294967296 ∧ i ≤ 32 ∧ Hid (A = a / 2 ^ i) ∧ Hid (B = b / 2 ^ i) ∧ Hid (O = (a ^^^ b) % 2 ^ i) ∧ Hid (P = 2 ^ i)) (fun _ _ _ _ iv => 32 - (intOf iv).toNat)
  case atStart => exact ⟨a, b, 0, 1, 0, rfl, rfl, rfl, rfl, rfl, ha, hb, by omega, by omega, by omega, by simp [Hid], by simp [Hid], by simp [Hid, Nat.mod_one], rfl⟩
  case round =>
    obtain ⟨A, B, O, P, i, rfl, rfl, rfl, rfl, rfl, hA, hB, hO, hP, hi, HA, HB, HO, HP⟩ := hrel
    by_cases hlt : i < 32
    · have hx := xor_next a b i
      have hle : (a ^^^ b) % 2 ^ (i + 1) < 2 ^ (i + 1) := Nat.mod_lt _ (Nat.pow_pos (by omega))
      have hpe : 2 ^ (i + 1) ≤ 2 ^ 32 := Nat.pow_le_pow_right (by omega) (by omega)
      rw [← HA.out, ← HB.out, ← HO.out, ← HP.out] at hx
      have hP2 : P * 2 ≤ 4294967296 := by rw [HP.out, ← Nat.pow_succ]; exact hpe
      have HA2 : Hid (A / 2 = a / 2 ^ (i + 1)) := by rw [HA.out, Nat.div_div_eq_div_mul, Nat.pow_succ]; rfl
      have HB2 : Hid (B / 2 = b / 2 ^ (i + 1)) := by rw [HB.out, Nat.div_div_eq_div_mul, Nat.pow_succ]; rfl
      have HP2 : Hid (2 * P = 2 ^ (i + 1)) := by rw [HP.out, Nat.pow_succ, Nat.mul_comm]; rfl
      have hO1 : (a ^^^ b) % 2 ^ (i + 1) ≤ 4294967296 := Nat.le_trans (Nat.le_of_lt hle) hpe
      clear hle hpe
      by_cases hab : A % 2 = B % 2
      · rw [if_pos hab] at hx
        rw [hx] at hO1
        have HX := Lib.hid hx
        have t1 : ((A : Int) % (2 : Int) == (B : Int) % (2 : Int)) = true := by simp; omega
        have t2 : ((A : Int) % (2 : Int) != (B : Int) % (2 : Int)) = false := by simp; omega
        clear hx hab
        go_wp2_with fail
        go_round
        case rel => exact ⟨A / 2, B / 2, O, 2 * P, i + 1, by go_num, by go_num, rfl, by go_num, by go_num, by omega, by omega, by omega, by omega, by omega, HA2, HB2, by rw [HX.out]; rfl, HP2⟩
        case measure => simp [intOf]; omega
      · rw [if_neg hab] at hx
        rw [hx] at hO1
        have HX := Lib.hid hx
        have t1 : ((A : Int) % (2 : Int) == (B : Int) % (2 : Int)) = false := by simp; omega
        have t2 : ((A : Int) % (2 : Int) != (B : Int) % (2 : Int)) = true := by simp; omega
        clear hx hab
        go_wp2_with fail
        go_round
        case rel => exact ⟨A / 2, B / 2, O + P, 2 * P, i + 1, by go_num, by go_num, by go_num, by go_num, by go_num, by omega, by omega, by omega, by omega, by omega, HA2, HB2, by rw [HX.out]; rfl, HP2⟩
        case measure => simp [intOf]; omega
    · obtain rfl : i = 32 := by omega
      have hx : a ^^^ b < 2 ^ 32 := Nat.xor_lt_two_pow ha hb
      have HX : Hid (O = a ^^^ b) := by rw [HO.out, Nat.mod_eq_of_lt hx]; rfl
      clear hx
      go_wp2_with fail
      go_ret
      rw [HX.out]
      exact ⟨rfl, rfl⟩

set_option maxHeartbeats 400000 in
theorem refStep_any (r : Rg) (b : Bool) (w : World) :
    Calls Tryz.prog 98 #[.int .u64 (r.toNat : Int), .int .u64 ((b.toNat : Nat) : Int)] w fun e w' => e = .returned (.int .u64 ((stepR r b).toNat : Int)) ∧ w = w' := by
  have H : Hid (stepR r b = (r <<< 1) ^^^ (if (r.msb ^^ b) then poly else 0#32)) := rfl
  have ht := rg_top r
  have hr := rg_lt r
  have hr2 := rg_lt (r <<< 1)
  have hs : (2 : Int) * (r.toNat : Int) % (4294967296 : Int) = ((r <<< 1).toNat : Int) := by rw [Int.mul_comm, rg_dbl]
  have HS := Lib.hid hs
  have e0 : ((false.toNat : Nat) : Int) = 0 := rfl
  have e1 : ((true.toNat : Nat) : Int) = 1 := rfl
  clear hs
  cases hm : r.msb <;> cases b
  all_goals
    rw [hm] at ht H
    first | rw [e0] | rw [e1]
  · have t1 : ((r.toNat : Int) / (2147483648 : Int) != 0) = false := by have : ¬ (r.toNat : Int) / (2147483648 : Int) = 1 := (by simpa using ht); simp; omega
    go_enter Tryz.func98, Tryz.ntmps98
    go_wp2_with fail
    go_ret
    rw [H.out]
    refine ⟨?_, rfl⟩
    rw [HS.out]
    simp
  · have t1 : ((r.toNat : Int) / (2147483648 : Int) != 1) = true := by have : ¬ (r.toNat : Int) / (2147483648 : Int) = 1 := (by simpa using ht); simp; omega
    go_enter Tryz.func98, Tryz.ntmps98
    go_wp2_with fail
    rw [HS.out]
    refine (turned_any (r <<< 1).toNat poly.toNat w hr2 (by decide)).mono ?_
    rintro e w' ⟨rfl, rfl⟩
    go_wp2_with fail
    go_ret
    rw [H.out]
    exact ⟨rfl, rfl⟩
  · have t1 : ((r.toNat : Int) / (2147483648 : Int) != 0) = true := by have : (r.toNat : Int) / (2147483648 : Int) = 1 := (by simpa using ht); simp; omega
    go_enter Tryz.func98, Tryz.ntmps98
    go_wp2_with fail
    rw [HS.out]
    refine (turned_any (r <<< 1).toNat poly.toNat w hr2 (by decide)).mono ?_
    rintro e w' ⟨rfl, rfl⟩
    go_wp2_with fail
    go_ret
    rw [H.out]
    exact ⟨rfl, rfl⟩
  · have t1 : ((r.toNat : Int) / (2147483648 : Int) != 1) = false := by have : (r.toNat : Int) / (2147483648 : Int) = 1 := (by simpa using ht); simp; omega
    go_enter Tryz.func98, Tryz.ntmps98
    go_wp2_with fail
    go_ret
    rw [H.out]
    refine ⟨?_, rfl⟩
    rw [HS.out]
    simp

theorem bits8_at : ∀ x, x < 256 → ∀ k, k < 8 → x / (128 / 2 ^ k) % 2 = ((bits8 x).getD k false).toNat := by decide +kernel
theorem rg_notN (r : Rg) : (4294967295 : Int) - (r.toNat : Int) = ((~~~r).toNat : Int) := by
  have := rg_lt r
  rw [BitVec.toNat_not]
  omega

/-- What was sealed: the bytes, or why not. -/
def openB (l : List UInt8) : Except Nat (List UInt8) := if l.length < 4 then .error 20 else if l.take (l.length - 4) ++ beB (sumOf (l.take (l.length - 4))).toNat 4 = l then .ok (l.take (l.length - 4)) else .error 21
end Go.Proofs.YtojlldalhhibmaaGreatDoor

namespace Go.Proofs.YtojlldalhhibmaaGreatDoor
open Go
set_option linter.unusedVariables false

def rdErrP (e : Nat) : Nat := if e = 10 then 30 else e
/-- Reader.Num, Reader.Text: what is taken, what is left, the fault. -/
def rdNum (l : List UInt8) (err : Nat) : Nat × List UInt8 × Nat :=
  if err ≠ 0 then (0, l, err) else match getVarB l with
    | .error er => (0, l, rdErrP er)
    | .ok (x, n) => (x, l.drop n, 0)
def rdText (l : List UInt8) (err : Nat) : List UInt8 × List UInt8 × Nat :=
  if err ≠ 0 then ([], l, err) else match getVarB l with
    | .error er => ([], l, rdErrP er)
    | .ok (x, n) => if 65536 < x then ([], l, 32) else if (l.drop n).length < x then ([], l, 30) else ((l.drop n).take x, (l.drop n).drop x, 0)
theorem rdNum_put {x : Nat} (hx : x < U64) (s : List UInt8) : rdNum (varB x ++ s) 0 = (x, s, 0) := by
  unfold rdNum
  rw [if_neg (by simp), getVarB_varB hx]
  simp
theorem rdText_put {t : List UInt8} (ht : t.length ≤ 65536) (s : List UInt8) : rdText (varB t.length ++ (t ++ s)) 0 = (t, s, 0) := by
  unfold rdText
  rw [if_neg (by simp), getVarB_varB (by unfold U64; omega)]
  simp only [List.drop_left]
  rw [if_neg (by omega), if_neg (by simp)]
  simp

/-- A record's fields; its bytes. -/
def recF (q : Nat) (t : List UInt8) : List UInt8 := varB q ++ (varB t.length ++ t)
def recS (q : Nat) (t : List UInt8) : List UInt8 := recF q t ++ beB (sumOf (recF q t)).toNat 4
def recB (q : Nat) (t : List UInt8) : List UInt8 := beB (recS q t).length 4 ++ recS q t
/-- The record that stands first, and how many bytes it has. -/
def recGet (l : List UInt8) : Option ((Nat × List UInt8) × Nat) :=
  if l.length < 4 ∨ (l.drop 4).length < deB (l.take 4) then none
  else match openB ((l.drop 4).take (deB (l.take 4))) with
    | .error _ => none
    | .ok f =>
      if (rdText (rdNum f 0).2.1 (rdNum f 0).2.2).2.2 = 0 ∧ (rdText (rdNum f 0).2.1 (rdNum f 0).2.2).2.1 = [] ∧ (rdText (rdNum f 0).2.1 (rdNum f 0).2.2).1.length ≤ 32768
      then some (((rdNum f 0).1, (rdText (rdNum f 0).2.1 (rdNum f 0).2.2).1), 4 + deB (l.take 4)) else none
theorem recF_len {q : Nat} {t : List UInt8} (hq : q < U64) (ht : t.length ≤ 32768) : (recF q t).length ≤ 32800 := by
  unfold recF
  have h1 := varB_le 9 q (Nat.lt_of_lt_of_le hq (by unfold U64; decide))
  have h2 := varB_le 9 t.length (Nat.lt_of_le_of_lt ht (by decide))
  rw [List.length_append, List.length_append]
  omega
theorem recS_len (q : Nat) (t : List UInt8) : (recS q t).length = (recF q t).length + 4 := by
  unfold recS; rw [List.length_append, beB_length]
theorem recB_len (q : Nat) (t : List UInt8) : (recB q t).length = 4 + ((recF q t).length + 4) := by
  unfold recB; rw [List.length_append, beB_length, recS_len]
theorem recB_head {q : Nat} {t : List UInt8} (hq : q < U64) (ht : t.length ≤ 32768) (s : List UInt8) : (recB q t ++ s).take 4 = beB (recS q t).length 4 ∧ (recB q t ++ s).drop 4 = recS q t ++ s ∧ deB (beB (recS q t).length 4) = (recS q t).length := by
  have h4 : (beB (recS q t).length 4).length = 4 := beB_length _ _
  refine ⟨?_, ?_, ?_⟩
  · unfold recB
    rw [List.append_assoc, List.take_append_of_le_length (by omega), List.take_of_length_le (by omega)]
  · unfold recB
    rw [List.append_assoc, List.drop_append_of_le_length (by omega), List.drop_eq_nil_of_le (by omega), List.nil_append]
  · apply deB_beB
    have := recF_len hq ht
    rw [recS_len]
    exact Nat.lt_of_le_of_lt (by omega : _ ≤ 32804) (by decide)
theorem openB_recS (q : Nat) (t : List UInt8) : openB (recS q t) = .ok (recF q t) := by
  have h4 : (beB (sumOf (recF q t)).toNat 4).length = 4 := beB_length _ _
  have e : (recS q t).take ((recS q t).length - 4) = recF q t := by
    rw [recS_len, Nat.add_sub_cancel]
    unfold recS
    rw [List.take_left]
  unfold openB
  rw [if_neg (by rw [recS_len]; omega), e]
  exact if_pos rfl
theorem recGet_put {q : Nat} {t : List UInt8} (hq : q < U64) (ht : t.length ≤ 32768) (s : List UInt8) : recGet (recB q t ++ s) = some ((q, t), (recB q t).length) := by
  obtain ⟨h1, h2, h3⟩ := recB_head hq ht s
  have hl := recB_len q t
  have e1 : rdNum (recF q t) 0 = (q, varB t.length ++ (t ++ []), 0) := by unfold recF; rw [List.append_nil]; exact rdNum_put hq _
  have e2 := rdText_put (t := t) (by omega) []
  unfold recGet
  rw [h1, h2, h3, if_neg (by rw [List.length_append, List.length_append, hl]; omega), List.take_append_of_le_length (Nat.le_refl _), List.take_of_length_le (Nat.le_refl _), openB_recS]
  simp only [e1, e2]
  rw [if_pos ⟨trivial, trivial, ht⟩, hl, recS_len]
/-- Of a record that is cut off nothing is got. -/
theorem recGet_cut {q : Nat} {t : List UInt8} (hq : q < U64) (ht : t.length ≤ 32768) {k : Nat} (hk : k < (recB q t).length) : recGet ((recB q t).take k) = none := by
  obtain ⟨h1, h2, h3⟩ := recB_head hq ht []
  rw [List.append_nil] at h1 h2
  have hl := recB_len q t
  unfold recGet
  by_cases h4 : k < 4
  · rw [if_pos (.inl (by rw [List.length_take]; omega))]
  · refine if_pos (.inr ?_)
    rw [List.take_take, Nat.min_eq_left (by omega), h1, h3, List.length_drop, List.length_take, recS_len]
    omega
end Go.Proofs.YtojlldalhhibmaaGreatDoor

namespace Go.Proofs.YtojlldalhhibmaaGreatDoor
open Go
set_option linter.unusedVariables false

/-- The records that stand one behind the other from a number on, and how many bytes they have. -/
def recScan : Nat → List UInt8 → Nat → List (Nat × List UInt8) × Nat
  | 0, _, _ => ([], 0)
  | k + 1, l, f => match recGet l with
    | none => ([], 0)
    | some (r, n) => if r.1 = f % U64 then (r :: (recScan k (l.drop n) (f + 1)).1, n + (recScan k (l.drop n) (f + 1)).2) else ([], 0)
theorem recGet_len {l : List UInt8} {r : Nat × List UInt8} {n : Nat} (h : recGet l = some (r, n)) : 8 ≤ n ∧ n ≤ l.length := by
  unfold recGet at h
  split at h
  · cases h
  · rename_i hc
    split at h
    · cases h
    · rename_i f hf
      split at h
      · injection h with h
        injection h with _ h
        unfold openB at hf
        split at hf
        · cases hf
        · rename_i h4
          rw [List.length_take] at h4
          rw [List.length_drop] at hc h4
          omega
      · cases h
theorem recGet_nil : recGet [] = none := by unfold recGet; rw [if_pos (.inl (by simp))]
/-- No more rounds than bytes. -/
theorem recScan_fuel : ∀ (k j : Nat) (l : List UInt8) (f : Nat), l.length ≤ k → l.length ≤ j → recScan k l f = recScan j l f
  | 0, 0, _, _, _, _ => rfl
  | 0, j + 1, l, f, h, _ => by
    obtain rfl : l = [] := List.eq_nil_of_length_eq_zero (by omega)
    rw [recScan, recScan, recGet_nil]
  | k + 1, 0, l, f, _, h => by
    obtain rfl : l = [] := List.eq_nil_of_length_eq_zero (by omega)
    rw [recScan, recScan, recGet_nil]
  | k + 1, j + 1, l, f, h1, h2 => by
    rw [recScan, recScan]
    cases hg : recGet l with
    | none => rfl
    | some x =>
      obtain ⟨r, n⟩ := x
      have hn := recGet_len hg
      simp only
      rw [recScan_fuel k j (l.drop n) (f + 1) (by rw [List.length_drop]; omega) (by rw [List.length_drop]; omega)]

/-- Bodies numbered from f on: their records' bytes. -/
def allB : Nat → List (List UInt8) → List UInt8
  | _, [] => []
  | f, t :: ts => recB (f % U64) t ++ allB (f + 1) ts
def numbered : Nat → List (List UInt8) → List (Nat × List UInt8)
  | _, [] => []
  | f, t :: ts => (f % U64, t) :: numbered (f + 1) ts
/-- How many are whole within n bytes, and how many bytes these have. -/
def wholeB : Nat → List (List UInt8) → Nat → Nat × Nat
  | _, [], _ => (0, 0)
  | f, t :: ts, n => if (recB (f % U64) t).length ≤ n then ((wholeB (f + 1) ts (n - (recB (f % U64) t).length)).1 + 1, (recB (f % U64) t).length + (wholeB (f + 1) ts (n - (recB (f % U64) t).length)).2) else (0, 0)
theorem recScan_cut : ∀ (ts : List (List UInt8)) (f n k : Nat), (∀ t ∈ ts, t.length ≤ 32768) → n ≤ (allB f ts).length → n ≤ k →
    recScan k ((allB f ts).take n) f = ((numbered f ts).take (wholeB f ts n).1, (wholeB f ts n).2)
  | [], f, n, k, _, hn, hk => by
    match k with
    | 0 => simp [recScan, numbered, wholeB]
    | k + 1 => simp [recScan, allB, numbered, wholeB, recGet_nil]
  | t :: ts, f, n, k, ht, hn, hk => by
    have hq : f % U64 < U64 := Nat.mod_lt _ (by unfold U64; decide)
    have htl : t.length ≤ 32768 := ht t (by simp)
    have hpos : 8 ≤ (recB (f % U64) t).length := by rw [recB_len]; omega
    rw [allB, wholeB]
    by_cases hc : (recB (f % U64) t).length ≤ n
    · rw [if_pos hc]
      obtain ⟨k, rfl⟩ : ∃ k', k = k' + 1 := ⟨k - 1, by omega⟩
      have e : (recB (f % U64) t ++ allB (f + 1) ts).take n = recB (f % U64) t ++ (allB (f + 1) ts).take (n - (recB (f % U64) t).length) := by
        rw [List.take_append, List.take_of_length_le hc]
      rw [e, recScan, recGet_put hq htl]
      simp only
      rw [if_pos trivial, List.drop_left]
      have ih := recScan_cut ts (f + 1) (n - (recB (f % U64) t).length) k (fun x hx => ht x (by simp [hx])) (by rw [allB, List.length_append] at hn; omega) (by omega)
      rw [ih, numbered, List.take_succ_cons]
    · rw [if_neg hc]
      have e : (recB (f % U64) t ++ allB (f + 1) ts).take n = (recB (f % U64) t).take n := by
        rw [List.take_append_of_le_length (by omega)]
      rw [e]
      match k with
      | 0 => simp [recScan]
      | k + 1 =>
        rw [recScan, recGet_cut hq htl (by omega)]
        simp
end Go.Proofs.YtojlldalhhibmaaGreatDoor

namespace Go.Proofs.YtojlldalhhibmaaGreatDoor
open Go
set_option linter.unusedVariables false

/-- The body of a segment's first record: "segment". -/
def titleB : List UInt8 := [115, 101, 103, 109, 101, 110, 116]
abbrev Rcd := Nat × List UInt8
/-- A segment's bytes: from sector p on, at most n sectors. -/
def wBytes (f : SF) (p : Int) : Nat → List UInt8
  | 0 => []
  | n + 1 => match f p with
    | none => []
    | some b => if b.length < 512 then b else b ++ wBytes f (p + 1) n
/-- A segment's base and records, where it is valid. -/
def wLookB (s : List UInt8) : Option (Nat × List Rcd) := match recGet s with
  | some ((q, t), n) => if t = titleB then some (q, (recScan (s.drop n).length (s.drop n) q).1) else none
  | none => none
def wLook (f : SF) (a : Int) (size : Nat) (i : Nat) : Option (Nat × List Rcd) := wLookB (wBytes f (a + (i : Int) * size) size)
structure Fd where
  at' : Nat
  base : Nat
  recs : List Rcd
deriving DecidableEq
/-- All that are valid, among the first n. -/
def wAll (f : SF) (a : Int) (size : Nat) : Nat → List Fd
  | 0 => []
  | n + 1 => wAll f a size n ++ (match wLook f a size n with | some (q, rs) => [⟨n, q, rs⟩] | none => [])
/-- May it be the first one? -/
def Fd.fits (x : Fd) (frm : Nat) : Bool := decide (x.base ≤ (frm + 1) % U64) && decide ((frm + 1) % U64 ≤ (x.base + x.recs.length) % U64)
def betterB : Option Fd → Fd → Bool
  | none, _ => true
  | some y, x => decide (y.base < x.base)
/-- The first of those with the greatest base. -/
def wPick (frm : Nat) : List Fd → Option Fd → Option Fd
  | [], b => b
  | x :: xs, b => wPick frm xs (if x.fits frm && betterB b x then some x else b)
structure Sg where
  at' : Nat
  base : Nat
  count : Nat
deriving DecidableEq
def Fd.sg (x : Fd) : Sg := ⟨x.at', x.base, x.recs.length % U64⟩
def usedL (live : List Sg) (i : Nat) : Bool := live.any fun s => s.at' == i
/-- The last record's number, where x was taken last. -/
def Fd.last (x : Fd) : Nat := (x.base + x.recs.length + (U64 - 1)) % U64
/-- The one that goes on behind 'last'. -/
def wNext (all : List Fd) (live : List Sg) (last : Nat) : Option Fd := all.find? fun x => decide (x.base = (last + 1) % U64) && !usedL live x.at'
/-- The chain: segments taken one behind the other. -/
def wChain (all : List Fd) (frm : Nat) : Nat → List Sg → Nat → List Rcd → Option Fd → List Sg × Nat × List Rcd
  | 0, live, last, out, _ => (live, last, out)
  | _ + 1, live, last, out, none => (live, last, out)
  | k + 1, live, last, out, some x => wChain all frm k (live ++ [x.sg]) x.last (out ++ x.recs.filter fun r => decide (frm < r.1)) (wNext all (live ++ [x.sg]) x.last)
/-- A segment's sectors given back, those from p on. -/
def wFree (D : Dsk) (p : Int) : Nat → Dsk
  | 0 => D
  | n + 1 => (wFree D p n).free (p + (n : Int))
/-- All segments of the first n that aren't in use given back. -/
def wFreeAll (D : Dsk) (a : Int) (size : Nat) (live : List Sg) : Nat → Dsk
  | 0 => D
  | n + 1 => if usedL live n then wFreeAll D a size live n else wFree (wFreeAll D a size live n) (a + (n : Int) * size) size
structure Wl where
  D : Dsk
  a : Int
  n : Nat
  size : Nat
  live : List Sg
  stream : List UInt8
  last : Nat
  synced : Nat
def Wl.sync (l : Wl) : Wl := { l with D := l.D.sync, synced := l.last }
/-- The log that is found; its records behind one. -/
def wOpen (D : Dsk) (a : Int) (n size : Nat) (frm : Nat) : Wl × List Rcd :=
  let all := wAll D.view a size n
  let c := wChain all frm (n + 1) [] frm [] (wPick frm all none)
  (({ D := wFreeAll D a size c.1 n, a := a, n := n, size := size, live := c.1, stream := [], last := max c.2.1 frm, synced := 0 } : Wl).sync, c.2.2)
/-- The first segment that isn't in use. -/
def wFresh (live : List Sg) (n : Nat) : Option Nat := (List.range n).find? fun i => !usedL live i
/-- A segment's sectors are written, those from k on; why it stopped. -/
def wPut (D : Dsk) (p : Int) (b : List UInt8) : Nat → Nat → Dsk × Nat
  | 0, _ => (D, 0)
  | m + 1, k => if 512 * k < b.length then
      (if D.why (p + (k : Int)) ((b.drop (512 * k)).take 512) = 0 then wPut (D.write (p + (k : Int)) ((b.drop (512 * k)).take 512)) p b m (k + 1)
      else (D, D.why (p + (k : Int)) ((b.drop (512 * k)).take 512))) else (D, 0)
/-- The count of the last one goes up. -/
def bumpL : List Sg → List Sg
  | [] => []
  | [s] => [{ s with count := (s.count + 1) % U64 }]
  | s :: t :: r => s :: bumpL (t :: r)
/-- A record behind the others: the log, its number, why not. -/
def wAppend (l : Wl) (t : List UInt8) : Wl × Nat × Nat :=
  let q := (l.last + 1) % U64
  let b := recB q t
  let head := recB q titleB
  if 32768 < t.length ∨ 512 * l.size < head.length + b.length then (l, 0, 81)
  else if l.stream = [] ∨ 512 * l.size < l.stream.length + b.length then
    match wFresh l.live l.n with
    | none => (l, 0, 82)
    | some i =>
      let r := wPut l.D (l.a + (i : Int) * l.size) (head ++ b) (head ++ b).length 0
      if r.2 = 0 then ({ l with D := r.1, live := bumpL (l.live ++ [⟨i, q, 0⟩]), stream := head ++ b, last := q }, q, 0)
      else (({ l with D := wFree r.1 (l.a + (i : Int) * l.size) l.size, stream := [] } : Wl).sync, 0, r.2)
  else
    let r := wPut l.D (l.a + (((l.live.getLast?).map (·.at')).getD 0 : Nat) * l.size) (l.stream ++ b) (l.stream ++ b).length (l.stream.length / 512)
    if r.2 = 0 then ({ l with D := r.1, live := bumpL l.live, stream := l.stream ++ b, last := q }, q, 0)
    else ({ l with D := r.1, stream := [] }, 0, r.2)
/-- Is the segment needed for records behind seq? -/
def Sg.stays (s : Sg) (seq : Nat) : Bool := decide (0 < s.count) && decide (seq < (s.base + s.count + (U64 - 1)) % U64)
def wTruncD (D : Dsk) (a : Int) (size : Nat) (seq : Nat) : List Sg → Dsk
  | [] => D
  | s :: r => wTruncD (if s.stays seq then D else wFree D (a + (s.at' : Int) * size) size) a size seq r
def wTrunc (l : Wl) (seq : Nat) : Wl × Nat :=
  if l.last < seq then (l, 83)
  else (({ l with D := wTruncD l.D l.a l.size seq l.live, live := l.live.filter (·.stays seq),
                  stream := if ((l.live.getLast?).map (·.stays seq)).getD true then l.stream else [] } : Wl).sync, 0)
end Go.Proofs.YtojlldalhhibmaaGreatDoor

namespace Go.Proofs.YtojlldalhhibmaaGreatDoor
open Go
set_option linter.unusedVariables false

theorem wBytes_len {D : Dsk} (hok : D.Ok) : ∀ (n : Nat) (p : Int), (wBytes D.view p n).length ≤ 512 * n
  | 0, _ => by simp [wBytes]
  | n + 1, p => by
    rw [wBytes]
    cases hv : D.view p with
    | none => simp
    | some b =>
      have h1 := (hok.view.at hv).2.2
      have ih := wBytes_len hok n (p + 1)
      simp only
      split
      · omega
      · rw [List.length_append]; omega
theorem wBytes_none {f : SF} {p : Int} {n : Nat} (h : f p = none) : wBytes f p (n + 1) = [] := by rw [wBytes, h]
theorem wBytes_short {f : SF} {p : Int} {n : Nat} {b : List UInt8} (h : f p = some b) (hb : b.length < 512) : wBytes f p (n + 1) = b := by rw [wBytes, h]; simp only; rw [if_pos hb]
theorem wBytes_full {f : SF} {p : Int} {n : Nat} {b : List UInt8} (h : f p = some b) (hb : ¬ b.length < 512) : wBytes f p (n + 1) = b ++ wBytes f (p + 1) n := by rw [wBytes, h]; simp only; rw [if_neg hb]

/-- What segment i gives to the list of all. -/
def wCell (f : SF) (a : Int) (size i : Nat) : List Fd := match wLook f a size i with | some (q, rs) => [⟨i, q, rs⟩] | none => []
theorem wAll_succ (f : SF) (a : Int) (size n : Nat) : wAll f a size (n + 1) = wAll f a size n ++ wCell f a size n := rfl
def wFrom (f : SF) (a : Int) (size : Nat) : Nat → Nat → List Fd
  | _, 0 => []
  | i, k + 1 => wCell f a size i ++ wFrom f a size (i + 1) k
theorem wFrom_snoc (f : SF) (a : Int) (size : Nat) : ∀ k i, wFrom f a size i (k + 1) = wFrom f a size i k ++ wCell f a size (i + k)
  | 0, i => by simp [wFrom]
  | k + 1, i => by
    rw [wFrom, wFrom_snoc f a size k (i + 1), wFrom, List.append_assoc, show i + 1 + k = i + (k + 1) by omega]
theorem wAll_from (f : SF) (a : Int) (size : Nat) : ∀ n, wAll f a size n = wFrom f a size 0 n
  | 0 => rfl
  | n + 1 => by rw [wAll_succ, wAll_from f a size n, wFrom_snoc, Nat.zero_add]
theorem wCell_some {f : SF} {a : Int} {size i q : Nat} {rs : List Rcd} (h : wLook f a size i = some (q, rs)) : wCell f a size i = [⟨i, q, rs⟩] := by unfold wCell; rw [h]
theorem wCell_none {f : SF} {a : Int} {size i : Nat} (h : wLook f a size i = none) : wCell f a size i = [] := by unfold wCell; rw [h]
theorem wCell_mem {f : SF} {a : Int} {size i : Nat} {x : Fd} (h : x ∈ wCell f a size i) : x.at' = i ∧ wLook f a size i = some (x.base, x.recs) := by
  unfold wCell at h
  cases hl : wLook f a size i with
  | none => rw [hl] at h; cases h
  | some r =>
    obtain ⟨q, rs⟩ := r
    rw [hl] at h
    simp only [List.mem_singleton] at h
    subst h
    exact ⟨rfl, rfl⟩
theorem wAll_mem {f : SF} {a : Int} {size : Nat} {x : Fd} : ∀ {n}, x ∈ wAll f a size n → x.at' < n ∧ wLook f a size x.at' = some (x.base, x.recs)
  | 0, h => by cases h
  | n + 1, h => by
    rw [wAll_succ, List.mem_append] at h
    rcases h with h | h
    · have := wAll_mem h
      exact ⟨by omega, this.2⟩
    · obtain ⟨rfl, h2⟩ := wCell_mem h
      exact ⟨by omega, h2⟩
theorem wAll_len (f : SF) (a : Int) (size : Nat) : ∀ n, (wAll f a size n).length ≤ n
  | 0 => by simp [wAll]
  | n + 1 => by
    rw [wAll_succ, List.length_append]
    have := wAll_len f a size n
    have : (wCell f a size n).length ≤ 1 := by unfold wCell; split <;> simp
    omega

/-- One more is looked at. -/
def wBest (frm : Nat) (b : Option Fd) (x : Fd) : Option Fd := if x.fits frm && betterB b x then some x else b
theorem wPick_cons (frm : Nat) (x : Fd) (xs : List Fd) (b : Option Fd) : wPick frm (x :: xs) b = wPick frm xs (wBest frm b x) := rfl
theorem wPick_append (frm : Nat) : ∀ (xs ys : List Fd) (b : Option Fd), wPick frm (xs ++ ys) b = wPick frm ys (wPick frm xs b)
  | [], _, _ => rfl
  | x :: xs, ys, b => by rw [List.cons_append, wPick_cons, wPick_cons, wPick_append frm xs ys]
theorem wPick_mem (frm : Nat) {x : Fd} : ∀ (xs : List Fd) (b : Option Fd), wPick frm xs b = some x → x ∈ xs ∨ b = some x
  | [], _, h => .inr h
  | y :: ys, b, h => by
    rw [wPick_cons] at h
    rcases wPick_mem frm ys _ h with h1 | h1
    · exact .inl (List.mem_cons_of_mem _ h1)
    · unfold wBest at h1
      by_cases hc : (y.fits frm && betterB b y) = true
      · rw [if_pos hc] at h1
        cases h1
        exact .inl (List.mem_cons_self ..)
      · rw [if_neg hc] at h1
        exact .inr h1
theorem wNext_some {all : List Fd} {live : List Sg} {last : Nat} {x : Fd} (h : wNext all live last = some x) : x ∈ all ∧ x.base = (last + 1) % U64 ∧ usedL live x.at' = false := by
  have h1 := List.find?_some h
  simp only [Bool.and_eq_true, decide_eq_true_eq, Bool.not_eq_true'] at h1
  exact ⟨List.mem_of_find?_eq_some h, h1.1, h1.2⟩

theorem wFree_ok {D : Dsk} (h : D.Ok) (p : Int) : ∀ n, (wFree D p n).Ok
  | 0 => h
  | n + 1 => (wFree_ok h p n).free _
theorem dfree_pend (D : Dsk) (x : Int) : (D.free x).pend.length ≤ D.pend.length + 1 := by
  unfold Dsk.free
  split
  · show (D.pend ++ [_]).length ≤ _
    simp
  · omega
theorem wFree_pend (D : Dsk) (p : Int) : ∀ n, (wFree D p n).pend.length ≤ D.pend.length + n
  | 0 => Nat.le_refl _
  | n + 1 => by
    have := dfree_pend (wFree D p n) (p + (n : Int))
    have := wFree_pend D p n
    rw [wFree]
    omega
theorem wFreeAll_ok {D : Dsk} (h : D.Ok) (a : Int) (size : Nat) (live : List Sg) : ∀ n, (wFreeAll D a size live n).Ok
  | 0 => h
  | n + 1 => by
    rw [wFreeAll]
    split
    · exact wFreeAll_ok h a size live n
    · exact wFree_ok (wFreeAll_ok h a size live n) _ _
theorem wFreeAll_pend (D : Dsk) (a : Int) (size : Nat) (live : List Sg) : ∀ n, (wFreeAll D a size live n).pend.length ≤ D.pend.length + n * size
  | 0 => by simp [wFreeAll]
  | n + 1 => by
    have h1 := wFreeAll_pend D a size live n
    have h2 := wFree_pend (wFreeAll D a size live n) (a + (n : Int) * size) size
    have h3 : (n + 1) * size = n * size + size := by rw [Nat.add_mul, Nat.one_mul]
    rw [wFreeAll]
    split <;> omega
theorem dwrite_pend (D : Dsk) (x : Int) (b : List UInt8) : (D.write x b).pend.length ≤ D.pend.length + 1 := by
  unfold Dsk.write
  split
  · show (D.pend ++ [_]).length ≤ _
    simp
  · omega
theorem wPut_ok (p : Int) (b : List UInt8) : ∀ (m k : Nat) {D : Dsk}, D.Ok → (wPut D p b m k).1.Ok
  | 0, _, _, h => h
  | m + 1, k, D, h => by
    rw [wPut]
    split
    · split
      · exact wPut_ok p b m (k + 1) (h.write _ _)
      · exact h
    · exact h
theorem usedL_snoc (live : List Sg) (s : Sg) (i : Nat) : usedL (live ++ [s]) i = (usedL live i || s.at' == i) := by simp [usedL]
theorem usedL_iff {live : List Sg} {i : Nat} : usedL live i = true ↔ ∃ s ∈ live, s.at' = i := by simp [usedL]
end Go.Proofs.YtojlldalhhibmaaGreatDoor

namespace Go.Proofs.YtojlldalhhibmaaGreatDoor
open Go Go.RowKit
set_option linter.unusedVariables false

/-- A cut: the first k bytes. -/
theorem Bs.pre {S : Nat → Prop} {w : World} {l : List UInt8} {A : Option Addr} {c : Nat} (h : Bs S w (.slice A l.length c) l) {k : Nat} (hk : k ≤ l.length) : Bs S w (.slice A k c) (l.take k) := by
  obtain ⟨A', c', hv, h3, h4, h5, h6⟩ := h.at
  injection hv with hA _ hc
  subst hA hc
  have hl : (l.take k).length = k := by rw [List.length_take]; omega
  have := Bs.mk_ (S := S) (w := w) (l := l.take k) (A := A) (c := c) (by omega) h4 h5 fun hn => by
    obtain ⟨b, o, hA, hS, hcell⟩ := h6 (by omega)
    refine ⟨b, o, hA, hS, fun j hj => ?_⟩
    rw [hcell j (by omega), List.getElem_take]
  rwa [hl] at this

theorem bv_set (l : List UInt8) (j : Nat) (b : UInt8) : bv (l.set j b) = (bv l).set j (.int .u8 (b.toNat : Int)) := by simp [bv, List.map_set]
/-- One byte of the call's own is stored anew. -/
theorem Ob.store {e : TypeId} {w : World} {B g k c : Nat} {l : List UInt8} (h : Ob e w B (.slice (some ⟨g, 0, none⟩) k c) l) (j : Nat) (b : UInt8) :
    Ob e (w.setCell ⟨g, j, none⟩ (.int .u8 (b.toNat : Int))) B (.slice (some ⟨g, 0, none⟩) k c) (l.set j b) := by
  have hk := h.len
  subst hk
  unfold Ob
  rw [bv_set, List.length_set]
  exact (World.ownsRow.stored h j _).1
theorem Ob.at {e : TypeId} {w : World} {B g k c : Nat} {l : List UInt8} (h : Ob e w B (.slice (some ⟨g, 0, none⟩) k c) l) {j : Nat} (hj : j < l.length) : w.cell? ⟨g, j, none⟩ = some (.int .u8 (l[j].toNat : Int)) := by
  have hk := h.len
  subst hk
  rw [World.ownsRow.cellAt h j (by omega)]
  exact bv_at hj
theorem Ob.free {e : TypeId} {w : World} {B g k c : Nat} {l : List UInt8} (h : Ob e w B (.slice (some ⟨g, 0, none⟩) k c) l) (j : Nat) : w.frozen? ⟨g, j, none⟩ = false := by
  have hk := h.len
  subst hk
  exact World.ownsRow.frozenAt h j
theorem Ob.head {e : TypeId} {w : World} {B k c : Nat} {A : Option Addr} {l : List UInt8} (h : Ob e w B (.slice A k c) l) (hl : 0 < l.length) : ∃ g, A = some ⟨g, 0, none⟩ ∧ B ≤ g := by
  rcases h.2 with ⟨h1, h2⟩ | ⟨g, cap, cur, hv, hb, _⟩
  · omega
  · injection hv with h1 _ _
    exact ⟨g, h1, hb⟩

end Go.Proofs.YtojlldalhhibmaaGreatDoor

namespace Go.Proofs.YtojlldalhhibmaaGreatDoor
open Go Go.RowKit
set_option linter.unusedVariables false

/-- The slice value v owns the values xs, of element type e, in a block from B on. -/
def Ow (e : TypeId) (w : World) (B : Nat) (v : Value) (xs : List Value) : Prop := w.ownsRow B e 1 v xs.length xs
section
variable {e : TypeId} {w w' : World} {B : Nat} {v : Value} {xs : List Value}
theorem Ow.made (e : TypeId) (w : World) (B : Nat) (hB : B ≤ w.heap.size) {g : Nat} (hg : g = w.heap.size) : Ow e (w.alloc (.cells #[] e)) B (.slice (some ⟨g, 0, none⟩) 0 0) [] := by
  subst hg
  exact World.ownsRow_made w #[] 0 hB (by simp [maxLen]) (by simp)
theorem Ow.nil (e : TypeId) (w : World) (B : Nat) : Ow e w B (.slice none 0 0) [] := World.ownsRow_nil w B e 1
theorem Ow.lower {B' : Nat} (h : Ow e w B v xs) (hB : B' ≤ B) : Ow e w B' v xs := by
  obtain ⟨h1, h2⟩ := h
  refine ⟨h1, ?_⟩
  rcases h2 with h2 | ⟨g, cap, cur, hv, hg, r⟩
  · exact .inl h2
  · exact .inr ⟨g, cap, cur, hv, Nat.le_trans hB hg, r⟩
theorem Ow.later (h : Ow e w B v xs) (hb : Below w.heap.size w w') : Ow e w' B v xs := by
  obtain ⟨h1, h2⟩ := h
  refine ⟨h1, ?_⟩
  rcases h2 with h2 | ⟨g, cap, cur, hv, hg, hh, r⟩
  · exact .inl h2
  · exact .inr ⟨g, cap, cur, hv, hg, (hb.block g (lt_of_block hh)).trans hh, r⟩
/-- A block of another type was written, and new ones made. -/
theorem Ow.beside (h : Ow e w B v xs) {g' : Nat} {t : TypeId} {cs : Array Value} (hb : Blk w g' t cs) (hne : e ≠ t) (hg : w.grownBy w' (some g')) : Ow e w' B v xs := by
  have hn := own_ne h hb hne
  obtain ⟨h1, h2⟩ := h
  refine ⟨h1, ?_⟩
  rcases h2 with h2 | ⟨g, cap, cur, hv, hB, hh, r⟩
  · exact .inl h2
  · refine .inr ⟨g, cap, cur, hv, hB, ?_, r⟩
    exact (hg.block g (lt_of_block hh) (fun e => hn (by rw [hv]; simp [Value.ownBlock]; injection e))).trans hh
theorem Ow.sl (h : Ow e w B v xs) : Sl (fun b => B ≤ b ∧ b < w.heap.size) w 1 v xs.length xs := Sl.of_own (by omega) h
/-- What the slice is, where it is not empty. -/
theorem Ow.open (h : Ow e w B v xs) (hl : 0 < xs.length) : ∃ g c, v = .slice (some ⟨g, 0, none⟩) xs.length c ∧ B ≤ g ∧ g < w.heap.size ∧ (∀ j (hj : j < xs.length), w.cell? ⟨g, j, none⟩ = some xs[j]) ∧ ∀ j, w.frozen? ⟨g, j, none⟩ = false := by
  have h0 := h
  rcases h.2 with ⟨_, h2⟩ | ⟨g, cap, cur, rfl, hb, hh, _⟩
  · omega
  · refine ⟨g, cap, rfl, hb, lt_of_block hh, fun j hj => ?_, fun j => World.ownsRow.frozenAt h0 j⟩
    rw [World.ownsRow.cellAt h0 j (by omega), List.getElem?_eq_getElem hj]
/-- What it is in any case. -/
theorem Ow.shape (h : Ow e w B v xs) : ∃ A c, v = .slice A xs.length c ∧ (0 < xs.length → ∃ g, A = some ⟨g, 0, none⟩ ∧ B ≤ g ∧ g < w.heap.size ∧ ∀ j (hj : j < xs.length), w.cell? ⟨g, j, none⟩ = some xs[j]) := by
  obtain ⟨A, k, c, rfl⟩ := own_slice h
  obtain rfl := own_len h
  refine ⟨A, c, rfl, fun hl => ?_⟩
  obtain ⟨g, c', hv, hB, hlt, hc, _⟩ := h.open hl
  injection hv with hA
  exact ⟨g, hA, hB, hlt, hc⟩
/-- One element is stored anew. -/
theorem Ow.store {g k c : Nat} (h : Ow e w B (.slice (some ⟨g, 0, none⟩) k c) xs) (j : Nat) (u : Value) : Ow e (w.setCell ⟨g, j, none⟩ u) B (.slice (some ⟨g, 0, none⟩) k c) (xs.set j u) := by
  have hk := own_len h
  subst hk
  unfold Ow
  rw [List.length_set]
  exact (World.ownsRow.stored h j u).1
end

/-- Flags as values; pages as values. -/
def bl (l : List Bool) : List Value := l.map .bool
def il (l : List Nat) : List Value := l.map fun (n : Nat) => Value.int .i64 (n : Int)
theorem bl_len (l : List Bool) : (bl l).length = l.length := by simp [bl]
theorem il_len (l : List Nat) : (il l).length = l.length := by simp [il]
theorem bl_one (l : List Bool) : ∀ u ∈ bl l, u.oneCell' = true := by
  intro u hu
  obtain ⟨_, _, rfl⟩ := List.mem_map.1 hu
  rfl
theorem il_one (l : List Nat) : ∀ u ∈ il l, u.oneCell' = true := by
  intro u hu
  obtain ⟨_, _, rfl⟩ := List.mem_map.1 hu
  rfl
theorem bl_set (l : List Bool) (j : Nat) (b : Bool) : (bl l).set j (.bool b) = bl (l.set j b) := by simp [bl, List.map_set]
theorem bl_at {l : List Bool} {j : Nat} (h : j < (bl l).length) : (bl l)[j] = .bool (l.getD j false) := by
  have : j < l.length := by simpa [bl] using h
  simp [bl, List.getD_eq_getElem?_getD, this]
theorem il_at {l : List Nat} {j : Nat} (h : j < (il l).length) : (il l)[j] = .int .i64 (l.getD j 0 : Nat) := by
  have : j < l.length := by simpa [il] using h
  simp [il, List.getD_eq_getElem?_getD, this]
end Go.Proofs.YtojlldalhhibmaaGreatDoor

namespace Go.Proofs.YtojlldalhhibmaaGreatDoor
open Go Go.RowKit
set_option linter.unusedVariables false

/-- What kind of block it is: cells of a type, or a map. -/
def kindAt (w : World) (b : Nat) : Option (Option TypeId) := match w.heap[b]? with
  | some (.cells _ t _) => some (some t)
  | some (.map _ _) => some none
  | _ => none
theorem kind_blk {w : World} {g : Nat} {t : TypeId} {cs : Array Value} (h : Blk w g t cs) : kindAt w g = some (some t) := by unfold Blk at h; unfold kindAt; rw [h]
theorem kind_own {w : World} {base : Nat} {e : TypeId} {size n : Nat} {v : Value} {xs : List Value} (h : w.ownsRow base e size v n xs) {b : Nat} (hb : v.ownBlock = some b) : kindAt w b = some (some e) := by
  rcases h.2 with ⟨rfl, _⟩ | ⟨g, cap, cur, rfl, _, hh, _⟩
  · cases hb
  · simp only [Value.ownBlock, Option.some.injEq] at hb
    subst hb
    unfold kindAt
    rw [hh]

theorem kind_lt {w : World} {b : Nat} {t : Option TypeId} (h : kindAt w b = some t) : b < w.heap.size := by
  rcases Nat.lt_or_ge b w.heap.size with h1 | h1
  · exact h1
  · unfold kindAt at h
    rw [Array.getElem?_eq_none h1] at h
    cases h
theorem kind_new (w : World) (t : TypeId) (cs : Array Value) : kindAt (w.alloc (.cells cs t)) w.heap.size = some (some t) := kind_blk (Blk.new w t cs)
theorem kind_of {w w' : World} {b : Nat} {t : Option TypeId} (h : w'.heap[b]? = w.heap[b]?) (hk : kindAt w b = some t) : kindAt w' b = some t := by unfold kindAt at hk ⊢; rw [h]; exact hk
/-- The slice value v reads as the cells xs, n elements of size cells, in a block of kind e. -/
def KSl (e : TypeId) (size : Nat) (w : World) (v : Value) (n : Nat) (xs : List Value) : Prop := Sl (fun b => kindAt w b = some (some e)) w size v n xs
section
variable {e : TypeId} {size n : Nat} {w w' : World} {v : Value} {xs : List Value}
theorem KSl.nil : KSl e size w (.slice none 0 0) 0 [] := Sl.nil
theorem KSl.keep (h : KSl e size w v n xs) (hk : ∀ b, kindAt w b = some (some e) → w'.heap[b]? = w.heap[b]?) : KSl e size w' v n xs := by
  obtain ⟨h1, A, c, h2, h3, h4, h5, h6⟩ := h
  refine ⟨h1, A, c, h2, h3, h4, h5, fun hl => ?_⟩
  obtain ⟨b, o, hA, hs, hc⟩ := h6 hl
  have hb := hk b hs
  refine ⟨b, o, hA, kind_of hb hs, fun j u hu => ?_⟩
  rw [World.cell?_of_block (a := ⟨b, o + j, none⟩) hb]
  exact hc j u hu
theorem KSl.later (h : KSl e size w v n xs) (hb : Below w.heap.size w w') : KSl e size w' v n xs := h.keep fun b hk => hb.block b (kind_lt hk)
theorem KSl.drewN (h : KSl e size w v n xs) (k : Nat) : KSl e size (w.drewN k) v n xs := h.later (below_drewN (Below.refl _ _) _)
/-- Only a block of another kind turned. -/
theorem KSl.other (h : KSl e size w v n xs) {z : Nat} (hz : kindAt w z ≠ some (some e)) (hg : w.grownBy w' (some z)) : KSl e size w' v n xs :=
  h.keep fun b hb => hg.block b (kind_lt hb) (fun e => by injection e with e; subst e; exact hz hb)
theorem KSl.setCell (h : KSl e size w v n xs) {p : Addr} (hp : kindAt w p.block ≠ some (some e)) (u : Value) : KSl e size (w.setCell p u) v n xs :=
  h.keep fun b hb => Below.heap_setCell w p u b (fun e => by subst e; exact hp hb)
theorem KSl.of_own {base : Nat} (hsz : 0 < size) (h : w.ownsRow base e size v n xs) : KSl e size w v n xs := by
  have hs := Sl.of_own hsz h
  rcases h.2 with ⟨rfl, hn⟩ | ⟨g, cap, cur, rfl, hB, hh, _⟩
  · obtain ⟨h1, A, c, h2, h3, h4, h5, h6⟩ := hs
    exact ⟨h1, A, c, h2, h3, h4, h5, fun hl => by omega⟩
  · obtain ⟨h1, A, c, h2, h3, h4, h5, h6⟩ := hs
    refine ⟨h1, A, c, h2, h3, h4, h5, fun hl => ?_⟩
    obtain ⟨b, o, hA, _, hc⟩ := h6 hl
    injection h2 with hA2
    rw [hA] at hA2
    injection hA2 with hA2
    injection hA2 with hb
    subst hb
    exact ⟨g, o, hA, kind_blk (t := e) (cs := cur) hh, hc⟩
theorem KSl.lt (h : KSl e size w v n xs) : Sl (fun b => b < w.heap.size) w size v n xs := Sl.more h fun _ hk => kind_lt hk
theorem KSl.new (w : World) (e : TypeId) (size : Nat) (hsz : 0 < size) (cs : Array Value) (n : Nat) (hn : 0 < n) (hm : n ≤ maxLen) (hc : cs.size = n * size) {g : Nat} (hg : g = w.heap.size) :
    KSl e size (w.alloc (.cells cs e)) (.slice (some ⟨g, 0, none⟩) n n) n cs.toList := by
  subst hg
  refine ⟨by simpa using hc, _, n, rfl, Nat.le_refl _, hm, (fun h => by cases h), fun _ => ⟨_, 0, rfl, kind_new _ _ _, fun j u hu => ?_⟩⟩
  rw [World.cell?_alloc_new, Nat.zero_add]
  simpa using hu
end
end Go.Proofs.YtojlldalhhibmaaGreatDoor
