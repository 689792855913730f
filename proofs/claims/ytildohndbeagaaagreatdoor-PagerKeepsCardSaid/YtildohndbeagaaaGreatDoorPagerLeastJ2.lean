/- What the proof of PagerLeast needs, part 2. -/
import Derived.Test.YtildohndbeagaaaGreatDoorPagerLeastJ1
import Derived.Laws.BitsAllLaws
import Derived.Test.YtildohndbeagaaaGreatDoorProg
import Derived.Laws.OwnMore
import Derived.Orders
import Derived.Deep.Quiet

namespace Go.Proofs.YtildohndbeagaaaGreatDoor
set_option linter.unusedVariables false

abbrev Rg := BitVec 32
def poly : Rg := 0x04c11db7#32
/-- One bit further on. -/
def stepR (r : Rg) (b : Bool) : Rg := (r <<< 1) ^^^ (if (r.msb ^^ b) then poly else 0#32)
def feed (r : Rg) (bs : List Bool) : Rg := bs.foldl stepR r
theorem feed_nil (r : Rg) : feed r [] = r := rfl
theorem feed_cons (r : Rg) (b : Bool) (bs : List Bool) : feed r (b :: bs) = feed (stepR r b) bs := rfl
theorem feed_append (r : Rg) (bs cs : List Bool) : feed r (bs ++ cs) = feed (feed r bs) cs := List.foldl_append

theorem poly_lin (x y : Bool) : (if (x ^^ y) then poly else 0#32) = (if x then poly else 0#32) ^^^ (if y then poly else 0#32) := by
  cases x <;> cases y <;> simp
theorem step_lin (a c : Rg) (x y : Bool) : stepR (a ^^^ c) (x ^^ y) = stepR a x ^^^ stepR c y := by
  unfold stepR
  rw [BitVec.msb_xor, BitVec.shiftLeft_xor_distrib, show ((a.msb ^^ c.msb) ^^ (x ^^ y)) = ((a.msb ^^ x) ^^ (c.msb ^^ y)) from by cases a.msb <;> cases c.msb <;> cases x <;> cases y <;> rfl, poly_lin]
  ac_rfl
theorem feed_lin : ∀ (xs ys : List Bool) (a c : Rg), xs.length = ys.length → feed (a ^^^ c) (List.zipWith xor xs ys) = feed a xs ^^^ feed c ys
  | [], [], a, c, _ => rfl
  | x :: xs, y :: ys, a, c, h => by
    rw [List.zipWith_cons_cons, feed_cons, step_lin, feed_lin xs ys _ _ (by simpa using h)]
    rfl

/-! ### Four bits at once -/
def bit4 (h : Nat) : List Bool := [h.testBit 3, h.testBit 2, h.testBit 1, h.testBit 0]
def zero4 : List Bool := [false, false, false, false]
def tab (i : Nat) : Rg := feed (BitVec.ofNat 32 (i <<< 28)) zero4

theorem step_low (x : Rg) (h : x.msb = false) : stepR x false = x <<< 1 := by
  unfold stepR
  simp [h]
theorem low4 (x : Rg) (h : x >>> 28 = 0#32) : feed x zero4 = x <<< 4 := by
  have hb : ∀ i, i < 4 → x.getLsbD (28 + i) = false := by
    intro i hi
    have := congrArg (fun y : Rg => y.getLsbD i) h
    simpa using this
  have h0 := hb 0 (by omega)
  have h1 := hb 1 (by omega)
  have h2 := hb 2 (by omega)
  have h3 := hb 3 (by omega)
  have e1 : stepR x false = x <<< 1 := step_low x (by rw [BitVec.msb_eq_getLsbD_last]; exact h3)
  have e2 : stepR (x <<< 1) false = x <<< 2 := by
    rw [step_low _ (by rw [BitVec.msb_eq_getLsbD_last]; simpa using h2), ← BitVec.shiftLeft_add]
  have e3 : stepR (x <<< 2) false = x <<< 3 := by
    rw [step_low _ (by rw [BitVec.msb_eq_getLsbD_last]; simpa using h1), ← BitVec.shiftLeft_add]
  have e4 : stepR (x <<< 3) false = x <<< 4 := by
    rw [step_low _ (by rw [BitVec.msb_eq_getLsbD_last]; simpa using h0), ← BitVec.shiftLeft_add]
  simp only [zero4, feed_cons, feed_nil, e1, e2, e3, e4]

theorem tab_bits : ∀ k, k < 16 → ∀ h, h < 16 → feed (BitVec.ofNat 32 (k <<< 28)) (bit4 h) = tab (k ^^^ h) := by decide +kernel

theorem feed4 (r : Rg) (h : Nat) (hh : h < 16) : feed r (bit4 h) = (r <<< 4) ^^^ tab ((r >>> 28).toNat ^^^ h) := by
  have hk : (r >>> 28).toNat < 16 := by
    have := r.isLt
    rw [BitVec.toNat_ushiftRight, Nat.shiftRight_eq_div_pow]
    omega
  obtain ⟨k, hk'⟩ : ∃ k, k = (r >>> 28).toNat := ⟨_, rfl⟩
  have hhi : BitVec.ofNat 32 (k <<< 28) = (r >>> 28) <<< 28 := by
    apply BitVec.eq_of_toNat_eq
    rw [hk', BitVec.toNat_ofNat, BitVec.toNat_shiftLeft]
  have hlo : (r ^^^ (r >>> 28) <<< 28) >>> 28 = 0#32 := by
    ext i hi
    simp only [BitVec.getElem_ushiftRight, BitVec.getLsbD_xor, BitVec.getLsbD_shiftLeft, BitVec.getLsbD_ushiftRight, BitVec.getElem_zero]
    by_cases h : i < 4
    · simp [show 28 + i < 32 by omega]
    · have h1 : r.getLsbD (28 + i) = false := BitVec.getLsbD_of_ge r _ (by omega)
      have h3 : ¬ 28 + i < 32 := by omega
      simp [h1, h3]
  have hsl : (r ^^^ (r >>> 28) <<< 28) <<< 4 = r <<< 4 := by
    ext i hi
    simp only [BitVec.getElem_shiftLeft, BitVec.getElem_xor]
    by_cases h : i < 4
    · simp [h]
    · have : i - 4 < 28 := by omega
      simp [h, this]
  have e : r = (r ^^^ (r >>> 28) <<< 28) ^^^ ((r >>> 28) <<< 28) := by
    rw [BitVec.xor_assoc, BitVec.xor_self, BitVec.xor_zero]
  have hz : bit4 h = List.zipWith xor zero4 (bit4 h) := by simp [zero4, bit4]
  rw [← hk']
  rw [← hk'] at hk
  calc feed r (bit4 h) = feed ((r ^^^ (r >>> 28) <<< 28) ^^^ ((r >>> 28) <<< 28)) (List.zipWith xor zero4 (bit4 h)) := by rw [← e, ← hz]
    _ = feed (r ^^^ (r >>> 28) <<< 28) zero4 ^^^ feed ((r >>> 28) <<< 28) (bit4 h) := feed_lin _ _ _ _ (by simp [zero4, bit4])
    _ = (r <<< 4) ^^^ tab (k ^^^ h) := by rw [low4 _ hlo, hsl, ← hhi, tab_bits k hk h hh]

/-! ### Bytes -/
def bits8 (b : Nat) : List Bool := bit4 (b / 16) ++ bit4 (b % 16)
def byteR (r : Rg) (b : UInt8) : Rg := feed r (bits8 b.toNat)
def moreR (r : Rg) (l : List UInt8) : Rg := l.foldl byteR r
/-- The sum of bytes behind some whose sum is v. -/
def sumMore (v : Rg) (l : List UInt8) : Rg := ~~~(moreR (~~~v) l)
def sumOf (l : List UInt8) : Rg := sumMore 0#32 l
theorem moreR_append (r : Rg) (l m : List UInt8) : moreR r (l ++ m) = moreR (moreR r l) m := List.foldl_append
theorem sumMore_append (v : Rg) (l m : List UInt8) : sumMore v (l ++ m) = sumMore (sumMore v l) m := by
  unfold sumMore
  rw [moreR_append, BitVec.not_not]
theorem moreR_snoc (r : Rg) (l : List UInt8) (b : UInt8) : moreR r (l ++ [b]) = byteR (moreR r l) b := by rw [moreR_append]; rfl
theorem byteR_eq (r : Rg) (b : UInt8) : byteR r b = ((((r <<< 4) ^^^ tab ((r >>> 28).toNat ^^^ (b.toNat / 16))) <<< 4) ^^^ tab (((((r <<< 4) ^^^ tab ((r >>> 28).toNat ^^^ (b.toNat / 16))) >>> 28).toNat) ^^^ (b.toNat % 16))) := by
  have := b.toNat_lt
  unfold byteR bits8
  rw [feed_append, feed4 r _ (by omega), feed4 _ _ (by omega)]

/-- The bits of bytes. -/
def bitsL (l : List UInt8) : List Bool := l.flatMap fun b => bits8 b.toNat
theorem moreR_bits (r : Rg) (l : List UInt8) : moreR r l = feed r (bitsL l) := by
  induction l generalizing r with
  | nil => rfl
  | cons b l ih => 
    show moreR (byteR r b) l = _
    rw [ih, show bitsL (b :: l) = bits8 b.toNat ++ bitsL l from List.flatMap_cons, feed_append]
    rfl
theorem bits8_length (b : Nat) : (bits8 b).length = 8 := rfl
theorem bitsL_length (l : List UInt8) : (bitsL l).length = 8 * l.length := by
  induction l with
  | nil => rfl
  | cons b l ih => rw [bitsL, List.flatMap_cons, List.length_append, bits8_length]; unfold bitsL at ih; rw [ih]; simp; omega
theorem bitsL_append (l m : List UInt8) : bitsL (l ++ m) = bitsL l ++ bitsL m := by simp [bitsL]

/-! ### What is turned within 32 bits is seen -/
theorem step0_inj {x : Rg} (h : stepR x false = 0#32) : x = 0#32 := by
  unfold stepR at h
  by_cases hm : x.msb
  · exfalso
    have := congrArg (fun y : Rg => y.getLsbD 0) h
    rw [hm] at this
    simp [poly] at this
  · have hm' : x.msb = false := by simpa using hm
    rw [hm'] at h
    ext i hi
    rw [BitVec.getElem_zero]
    by_cases h31 : i = 31
    · subst h31
      rw [BitVec.msb_eq_getLsbD_last] at hm'
      exact hm'
    · have := congrArg (fun y : Rg => y.getLsbD (i + 1)) h
      simpa [show i + 1 < 32 by omega, BitVec.getLsbD_eq_getElem hi] using this
def zeros (n : Nat) : List Bool := List.replicate n false
theorem feed0_inj : ∀ (n : Nat) {x : Rg}, feed x (zeros n) = 0#32 → x = 0#32
  | 0, x, h => h
  | n + 1, x, h => step0_inj (feed0_inj n h)
theorem feed0_zero : ∀ (n : Nat), feed 0#32 (zeros n) = 0#32
  | 0 => rfl
  | n + 1 => by rw [zeros, List.replicate_succ, feed_cons, show stepR 0#32 false = 0#32 from rfl]; exact feed0_zero n
/-- The word of at most 32 bits, the first bit highest. -/
def topW : List Bool → Rg
  | [] => 0#32
  | b :: bs => (if b then 0x80000000#32 else 0#32) ^^^ (topW bs >>> 1)
theorem topW_bit : ∀ (bs : List Bool) (i : Nat), i < 32 → (topW bs).getLsbD (31 - i) = bs.getD i false
  | [], i, h => by simp [topW]
  | b :: bs, 0, h => by cases b <;> simp [topW]
  | b :: bs, i + 1, h => by
    have := topW_bit bs i (by omega)
    simp only [topW, BitVec.getLsbD_xor, BitVec.getLsbD_ushiftRight, List.getD_cons_succ]
    rw [show 1 + (31 - (i + 1)) = 31 - i by omega, this]
    have : (if b then 0x80000000#32 else 0#32 : Rg).getLsbD (31 - (i + 1)) = false := by
      have : ∀ j, j < 31 → (0x80000000#32 : Rg).getLsbD j = false := by decide
      cases b
      · simp
      · exact this _ (by omega)
    rw [this]; simp
theorem step_word (b : Bool) (bs : List Bool) (h : bs.length ≤ 31) (r : Rg) : stepR (r ^^^ topW (b :: bs)) false = stepR r b ^^^ topW bs := by
  have e1 : stepR (r ^^^ topW (b :: bs)) false = stepR (r ^^^ (if b then 0x80000000#32 else 0#32) ^^^ (topW bs >>> 1)) (false ^^ false) := by rw [topW, BitVec.xor_assoc]; rfl
  have hm : (topW bs >>> 1).msb = false := by rw [BitVec.msb_eq_getLsbD_last]; simp
  have hl : (topW bs).getLsbD 0 = false := by
    have := topW_bit bs 31 (by omega)
    rw [show 31 - 31 = 0 from rfl] at this
    rw [this]
    simp [List.getD, List.getElem?_eq_none h]
  have e3 : (topW bs >>> 1) <<< 1 = topW bs := by
    ext i hi
    rcases i with _ | i
    · simp at hl ⊢; exact hl
    · simp [Nat.add_comm 1 i, BitVec.getLsbD_eq_getElem hi]
  have e4 : stepR (r ^^^ (if b then 0x80000000#32 else 0#32)) false = stepR r b := by
    cases b
    · simp
    · have : stepR r true = stepR (r ^^^ 0#32) (false ^^ true) := by simp
      rw [this, step_lin, show (if true then (0x80000000#32 : Rg) else 0#32) = 0x80000000#32 from rfl]
      have h2 : stepR (r ^^^ 0x80000000#32) false = stepR (r ^^^ 0x80000000#32) (false ^^ false) := rfl
      rw [h2, step_lin]
      congr 1
  rw [e1, step_lin, e4, step_low _ hm, e3]
theorem feed_word : ∀ (bs : List Bool) (r : Rg), bs.length ≤ 32 → feed r bs = feed (r ^^^ topW bs) (zeros bs.length)
  | [], r, _ => by simp [topW, zeros]
  | b :: bs, r, h => by
    have h' : bs.length ≤ 31 := by simpa using h
    rw [feed_cons, List.length_cons, zeros, List.replicate_succ, feed_cons, step_word b bs h' r]
    exact feed_word bs _ (by omega)
theorem topW_zero {bs : List Bool} (h : bs.length ≤ 32) (h0 : topW bs = 0#32) : bs = zeros bs.length := by
  apply List.ext_getElem
  · simp [zeros]
  · intro i h1 h2
    have := topW_bit bs i (by omega)
    rw [h0] at this
    simp [List.getD, List.getElem?_eq_getElem h1] at this
    simp [zeros, this]
/-- A turning within 32 bits leads from nothing to something. -/
theorem burst (a c : Nat) (bs : List Bool) (h : bs.length ≤ 32) (hb : bs ≠ zeros bs.length) : feed 0#32 (zeros a ++ bs ++ zeros c) ≠ 0#32 := by
  intro h0
  rw [feed_append, feed_append, feed0_zero] at h0
  have h1 := feed0_inj c h0
  rw [feed_word bs _ h, BitVec.zero_xor] at h1
  exact hb (topW_zero h (feed0_inj _ h1))
/-- Bytes with four more behind lead to a fixed register just where the four are their sum. -/
theorem feed_self (r : Rg) (bs : List Bool) (h : bs.length = 32) : feed r bs = 0#32 ↔ r = topW bs := by
  rw [feed_word bs r (by omega)]
  constructor
  · intro h0
    have := feed0_inj _ h0
    have e : (r ^^^ topW bs) ^^^ topW bs = 0#32 ^^^ topW bs := by rw [this]
    rwa [BitVec.xor_assoc, BitVec.xor_self, BitVec.xor_zero, BitVec.zero_xor] at e
  · rintro rfl
    rw [BitVec.xor_self]
    exact feed0_zero _
end Go.Proofs.YtildohndbeagaaaGreatDoor

namespace Go.Proofs.YtildohndbeagaaaGreatDoor
open Go Go.RowKit
set_option linter.unusedVariables false

/-- A register's value. -/
abbrev rv (r : Rg) : Value := .int .u32 (r.toNat : Int)
theorem rg_lt (r : Rg) : r.toNat < 4294967296 := r.isLt

theorem rg_dbl (r : Rg) : ((r.toNat : Int) * (2 : Int) % (4294967296 : Int)) = ((r <<< 1).toNat : Int) := by
  rw [BitVec.toNat_shiftLeft]
  simp [Nat.shiftLeft_eq]
theorem rg_top (r : Rg) : ((r.toNat : Int) / 2147483648 == 1) = r.msb := by
  have := rg_lt r
  rw [BitVec.msb_eq_decide, Bool.eq_iff_iff, beq_iff_eq, decide_eq_true_eq]
  omega
theorem rg_xor (a c : Rg) : bits .xor .u32 (a.toNat : Int) (c.toNat : Int) = ((a ^^^ c).toNat : Int) := by
  rw [u32_xor_nat _ _ (rg_lt a) (rg_lt c), BitVec.toNat_xor]
theorem rg_poly (r : Rg) : bits .xor .u32 (r.toNat : Int) 79764919 = ((r ^^^ poly).toNat : Int) := rg_xor r poly

set_option maxHeartbeats 400000 in
theorem step_any (r : Rg) (b : Bool) (w : World) :
    Calls Tryz.prog 119 #[rv r, .bool b] w fun e w' => e = .returned (rv (stepR r b)) ∧ w = w' := by
  have H : Hid (stepR r b = (r <<< 1) ^^^ (if (r.msb ^^ b) then poly else 0#32)) := rfl
  have ht := rg_top r
  have hr := rg_lt r
  cases hm : r.msb <;> cases b
  all_goals
    rw [hm] at ht H
    go_enter Tryz.func119, Tryz.ntmps119
    go_wp2_with fail
    go_ret
    rw [H.out]
    refine ⟨?_, rfl⟩
    have hd := rg_dbl r
    rw [hd]
    first | (rw [rg_poly]; rfl) | (simp; done)

theorem rg_shl28 (i : Nat) (h : i < 16) : ((i : Int) * (268435456 : Int)) = ((BitVec.ofNat 32 (i <<< 28)).toNat : Int) := by
  rw [BitVec.toNat_ofNat, Nat.shiftLeft_eq]
  omega
theorem feed_zeros_succ (r : Rg) (k : Nat) : feed r (zeros (k + 1)) = stepR (feed r (zeros k)) false := by
  rw [zeros, List.replicate_succ', feed_append]; rfl

set_option maxHeartbeats 400000 in
theorem tset_any (g i : Nat) (cs : Array Value) (w : World) (hi : i < 16) (hcs : cs.size = 16) (hb : Blk w g 188 cs) :
    Calls Tryz.prog 118 #[.int .i64 i, .pointer (some ⟨g, 0, none⟩)] w fun e w' => e = .returned (.tuple #[]) ∧ w' = w.setCell ⟨g, i, none⟩ (rv (tab i)) := by
  go_enter Tryz.func118, Tryz.ntmps118
  go_wp2_with fail
  go_loop [3, 7] (fun rvv kv => ∃ k : Nat, k ≤ 4 ∧ kv = .int .i64 k ∧ rvv = rv (feed (BitVec.ofNat 32 (i <<< 28)) (zeros k))) (fun _ kv => 4 - (intOf kv).toNat)
  case atStart => exact ⟨0, by omega, rfl, by rw [rg_shl28 i hi]; rfl⟩
  case round =>
    obtain ⟨k, hk, rfl, rfl⟩ := hrel
    by_cases hlt : k < 4
    · have H := Lib.hid (feed_zeros_succ (BitVec.ofNat 32 (i <<< 28)) k)
      go_wp2_with (go_at_call 119; refine (step_any _ _ _).mono ?_; rintro e w' ⟨rfl, rfl⟩)
      go_round
      case rel => exact ⟨k + 1, by omega, by go_num, by rw [H.out]⟩
      case measure => simp [intOf]; omega
    · obtain rfl : k = 4 := by omega
      have hc := hb.cell i
      have hf := hb.free i
      rw [Array.getElem?_eq_getElem (by omega)] at hc
      go_wp2_with fail
      go_end0
      exact ⟨rfl, rfl⟩

/-- The table, i entries laid. -/
def tabC (i : Nat) : Array Value := (Array.range 16).map fun j => if j < i then rv (tab j) else .int .u32 0
theorem tabC_size (i : Nat) : (tabC i).size = 16 := by simp [tabC]
theorem tabC_set (i : Nat) (h : i < 16) : (tabC i).setIfInBounds i (rv (tab i)) = tabC (i + 1) := by
  apply Array.ext
  · simp [tabC]
  · intro j h1 h2
    have hj : j < 16 := by simpa [tabC] using h2
    rw [Array.getElem_setIfInBounds (by simpa using h1)]
    by_cases e : i = j
    · subst e; simp [tabC]
    · rw [if_neg e]
      simp only [tabC, Array.getElem_map, Array.getElem_range]
      by_cases hl : j < i
      · rw [if_pos hl, if_pos (by omega)]
      · rw [if_neg hl, if_neg (by omega)]
theorem tabC_at (j : Nat) (h : j < 16) : (tabC 16)[j]? = some (rv (tab j)) := by
  rw [Array.getElem?_eq_getElem (by rw [tabC_size]; exact h)]
  simp [tabC, h]
theorem tabC_zero : tabC 0 = #[.int .u32 0, .int .u32 0, .int .u32 0, .int .u32 0, .int .u32 0, .int .u32 0, .int .u32 0, .int .u32 0, .int .u32 0, .int .u32 0, .int .u32 0, .int .u32 0, .int .u32 0, .int .u32 0, .int .u32 0, .int .u32 0] := by
  simp [tabC, ← Array.toList_inj, List.range_succ]
theorem tabC_one (i : Nat) : (tabC i).all (·.oneCell') = true := by
  rw [Array.all_eq_true]
  intro j h
  simp only [tabC, Array.getElem_map, Array.getElem_range]
  split <;> rfl
/-- The table as a value. -/
def tabV : Value := .agg (tabC 16)
theorem infoTab (i : Nat) : (Tryz.prog.info? 188).map (·.size) = some (tabC i).size := by rw [tabC_size]; kernel_rfl
theorem Blk.setRow {w : World} {g : Nat} {t : TypeId} {cs : Array Value} (h : Blk w g t cs) (ds : Array Value) : Blk (w.setRow g ds) g t ds := by
  unfold Blk at h ⊢
  simp [World.setRow, Array.getElem?_modify, h]
theorem below_setRow {B g : Nat} {w w' : World} (h : Below B w w') (hg : B ≤ g) (ds : Array Value) : Below B w (w'.setRow g ds) := by
  refine h.trans ⟨rfl, rfl, rfl, by simp, fun k hk => ?_⟩
  simp only [World.setRow, Array.getElem?_modify]
  rw [if_neg (by omega)]

set_option maxHeartbeats 400000 in
set_option maxRecDepth 100000 in
theorem table_any (w : World) :
    Calls Tryz.prog 116 #[] w fun e w' => e = .returned tabV ∧ Below w.heap.size w w' := by
  have hmf := run_makeFunc Tryz.prog
  go_enter Tryz.func116, Tryz.ntmps116
  go_wp2_with fail
  rw [← tabC_zero]
  have R0 : Blk ((w.alloc (.cells (tabC 0) 188)).alloc (.cells (tabC 0) 188)) (w.heap.size + 1) 188 (tabC 0) ∧
      Blk ((w.alloc (.cells (tabC 0) 188)).alloc (.cells (tabC 0) 188)) w.heap.size 188 (tabC 0) ∧
      Below w.heap.size w ((w.alloc (.cells (tabC 0) 188)).alloc (.cells (tabC 0) 188)) := by
    refine ⟨?_, (Blk.new w _ _).alloc _, ((Below.refl _ _).alloc (Nat.le_refl _) _).alloc (by simp) _⟩
    have := Blk.new (w.alloc (.cells (tabC 0) 188)) 188 (tabC 0)
    simpa using this
  generalize ((w.alloc (.cells (tabC 0) 188)).alloc (.cells (tabC 0) 188)) = w2 at *
  go_loopw [5] (fun iv wr => ∃ i : Nat, iv = .int .i64 (i : Int) ∧ i ≤ 16 ∧ Blk wr (w.heap.size + 1) 188 (tabC i) ∧ Blk wr w.heap.size 188 (tabC 0) ∧ Below w.heap.size w wr) (fun iv _ => 16 - (intOf iv).toNat)
  case atStart => exact ⟨0, rfl, by omega, R0⟩
  case round =>
    obtain ⟨i, rfl, hi, hb1, hb0, hbl⟩ := hrel
    clear R0
    by_cases hlt : i < 16
    · go_wp2_with fail
      refine (tset_any (w.heap.size + 1) i (tabC i) wr hlt (tabC_size _) hb1).mono ?_
      rintro e w3 ⟨rfl, rfl⟩
      go_wp2
      go_roundw
      case rel => exact ⟨i + 1, by go_num, by omega, by rw [← tabC_set i hlt]; exact hb1.put i _, hb0.far (by simp) _, hbl.setCell (by simp) _⟩
      case measure => simp [intOf]; omega
    · obtain rfl : i = 16 := by omega
      have hu := Tryz.underlying188
      go_wp2_with (first | (refine wpList_load_row rfl _ (.tmp 1) rfl (w.heap.size + 1) rfl _ (tabC 16) _ _ hb1 hu rfl (infoTab 16) ?_) | (refine wpList_store_row rfl _ (.tmp 0) (.tmp 12) rfl w.heap.size (tabC 16) rfl rfl _ (tabC 0) hb0 (infoTab 16) (by simp [tabC_size]) (tabC_one 16) ?_))
      exact bodyPost_ret (v := tabV) (results_cell_row rfl _ _ w.heap.size _ (tabC 16) _ _ rfl (hb0.setRow _) hu rfl (infoTab 16)) rfl ⟨rfl, below_setRow hbl (Nat.le_refl _) _⟩

theorem rg_not (r : Rg) : bits .xor .u32 IntKind.u32.max (r.toNat : Int) = ((~~~r).toNat : Int) := by
  rw [show IntKind.u32.max = (((BitVec.allOnes 32 : Rg).toNat : Nat) : Int) from rfl, rg_xor]
  congr 2
theorem and15 (x : Nat) (hx : x < 256) : bits .and .u8 (x : Int) 15 = ((x % 16 : Nat) : Int) := by
  have h := u8_and_nat x 15 hx (by omega)
  rw [show x &&& 15 = x % 16 from Nat.and_two_pow_sub_one_eq_mod x 4] at h
  exact h
theorem nib_lt (r : Rg) (h : Nat) (hh : h < 16) : (r >>> 28).toNat ^^^ h < 16 := by
  have hk : (r >>> 28).toNat < 16 := by
    have := r.isLt
    rw [BitVec.toNat_ushiftRight, Nat.shiftRight_eq_div_pow]
    exact Nat.div_lt_of_lt_mul this
  exact Nat.xor_lt_two_pow (n := 4) hk hh
theorem nib_xor (r : Rg) (h : Nat) (hh : h < 16) : bits .xor .u32 ((r.toNat : Int) / (268435456 : Int)) (h : Int) = (((r >>> 28).toNat ^^^ h : Nat) : Int) := by
  have e : ((r.toNat : Int) / (268435456 : Int)) = (((r >>> 28).toNat : Nat) : Int) := by
    rw [BitVec.toNat_ushiftRight, Nat.shiftRight_eq_div_pow]
    omega
  have := rg_lt (r >>> 28)
  rw [e, u32_xor_nat _ _ this (by omega)]
theorem rg_shl4 (r : Rg) : ((r.toNat : Int) * (16 : Int) % (4294967296 : Int)) = ((r <<< 4).toNat : Int) := by
  rw [BitVec.toNat_shiftLeft]
  simp [Nat.shiftLeft_eq]

set_option maxHeartbeats 400000 in
set_option maxRecDepth 100000 in
theorem more_any (S : Nat → Prop) (v0 : Value) (v : Rg) (l : List UInt8) (w : World) (hl : l.length ≤ 1099511627776) (hr : Bs S w v0 l) :
    Calls Tryz.prog 109 #[rv v, v0] w fun e w' => e = .returned (rv (sumMore v l)) ∧ Below w.heap.size w w' := by
  have HR := Lib.hid ((Sl.lt hr (by omega)).more (fun _ h => h.2))
  obtain ⟨A, c, rfl, hlc, hcm, hA0, hA⟩ := hr.at
  clear hA hr hA0
  go_enter Tryz.func109, Tryz.ntmps109
  go_wp2_with fail
  refine (table_any w).mono ?_
  rintro e w1 ⟨rfl, hbl1⟩
  have hr1 := Sl.below HR.out hbl1 (fun _ h => h)
  have hs1 := hbl1.size
  unfold tabV
  go_wp2_with (refine wpList_store_row rfl _ (.tmp 5) (.tmp 9) rfl w1.heap.size (tabC 16) rfl rfl _ _ (Blk.new w1 _ _) (infoTab 16) (by simp [tabC_size]) (tabC_one 16) ?_)
  have B1 : Blk ((w1.alloc (.cells #[.int .u32 0, .int .u32 0, .int .u32 0, .int .u32 0, .int .u32 0, .int .u32 0, .int .u32 0, .int .u32 0, .int .u32 0, .int .u32 0, .int .u32 0, .int .u32 0, .int .u32 0, .int .u32 0, .int .u32 0, .int .u32 0] 188)).setRow w1.heap.size (tabC 16)) w1.heap.size 188 (tabC 16) := (Blk.new _ _ _).setRow _
  have hbl2 : Below w.heap.size w ((w1.alloc (.cells #[.int .u32 0, .int .u32 0, .int .u32 0, .int .u32 0, .int .u32 0, .int .u32 0, .int .u32 0, .int .u32 0, .int .u32 0, .int .u32 0, .int .u32 0, .int .u32 0, .int .u32 0, .int .u32 0, .int .u32 0, .int .u32 0] 188)).setRow w1.heap.size (tabC 16)) := below_setRow (hbl1.alloc hs1 _) hs1 _
  have hr2 : Bs (fun b => b < w.heap.size) _ _ l := Sl.below HR.out hbl2 (fun _ h => h)
  clear hr1 HR hbl1
  generalize ((w1.alloc _).setRow _ _) = w2 at *
  obtain ⟨_, _, hv, _, _, _, hA⟩ := hr2.at
  injection hv with e1 _ e2
  subst e1 e2
  have HA := Lib.hid hA
  clear hA hr2
  go_loop [6, 14] (fun rvv iv => ∃ (i : Nat) (r : Rg), iv = .int .i64 (i : Int) ∧ i ≤ l.length ∧ rvv = rv r ∧ Hid (r = moreR (~~~v) (l.take i))) (fun _ iv => l.length - (intOf iv).toNat)
  case atStart => exact ⟨0, ~~~v, rfl, by omega, by rw [rg_not], rfl⟩
  case round =>
    obtain ⟨i, r, rfl, hi, rfl, hrm⟩ := hrel
    by_cases hil : i < l.length
    · obtain ⟨b, o, rfl, _, hcell⟩ := HA.out (by omega)
      have hc := hcell i hil
      clear hcell HA
      have HS : Hid (byteR r l[i] = moreR (~~~v) (l.take (i + 1))) := by
        rw [Hid, List.take_succ_eq_append_getElem hil, moreR_snoc, hrm.out]
      have HQ := Lib.hid (byteR_eq r l[i])
      obtain ⟨x, hx⟩ : ∃ x, x = l[i].toNat := ⟨_, rfl⟩
      have hx256 : x < 256 := hx ▸ l[i].toNat_lt
      rw [← hx] at hc HQ
      have n1 := nib_xor r (x / 16) (by omega)
      have n1l := nib_lt r (x / 16) (by omega)
      generalize (r >>> 28).toNat ^^^ (x / 16) = k1 at *
      have c1 := (B1.cell k1).trans (tabC_at k1 n1l)
      have x1 := rg_xor (r <<< 4) (tab k1)
      rw [← rg_shl4] at x1
      generalize (r <<< 4) ^^^ tab k1 = r1 at *
      have n2 := nib_xor r1 (x % 16) (by omega)
      have n2l := nib_lt r1 (x % 16) (by omega)
      generalize (r1 >>> 28).toNat ^^^ (x % 16) = k2 at *
      have c2 := (B1.cell k2).trans (tabC_at k2 n2l)
      have x2 := rg_xor (r1 <<< 4) (tab k2)
      rw [← rg_shl4] at x2
      generalize (r1 <<< 4) ^^^ tab k2 = r2 at *
      have HR2 : Hid (r2 = moreR (~~~v) (l.take (i + 1))) := by rw [Hid, ← HS.out, HQ.out]
      have a15 := and15 x hx256
      rw [show ((x / 16 : Nat) : Int) = (x : Int) / (16 : Int) by omega] at n1
      rw [show ((x % 16 : Nat) : Int) = (x : Int) % (16 : Int) by omega] at n2 a15
      have l1 := rg_lt r
      have l2 := rg_lt r1
      have l3 := rg_lt r2
      clear hx HS HQ
      go_wp2_with fail
      go_round
      case rel => exact ⟨i + 1, r2, by go_num, by omega, rfl, HR2⟩
      case measure => simp [intOf]; omega
    · obtain rfl : i = l.length := by omega
      have HR2 := hrm.out
      rw [List.take_length] at HR2
      have HR3 := Lib.hid HR2
      clear HR2
      go_wp2_with fail
      go_ret
      refine ⟨?_, hbl2⟩
      rw [rg_not, HR3.out]
      rfl

set_option maxHeartbeats 400000 in
theorem of_any (S : Nat → Prop) (v0 : Value) (l : List UInt8) (w : World) (hl : l.length ≤ 1099511627776) (hr : Bs S w v0 l) :
    Calls Tryz.prog 94 #[v0] w fun e w' => e = .returned (rv (sumOf l)) ∧ Below w.heap.size w w' := by
  have HR := Lib.hid hr
  obtain ⟨A, c, rfl, hlc, hcm, hA0, hA⟩ := hr.at
  clear hA hr hA0
  go_enter Tryz.func94, Tryz.ntmps94
  go_wp2_with fail
  refine (more_any _ _ 0#32 l w hl HR.out).mono ?_
  rintro e w1 ⟨rfl, hbl1⟩
  go_wp2_with fail
  go_ret
  exact ⟨rfl, hbl1⟩

theorem sum4 (r : Rg) : (r.toNat : Nat) < 256 ^ 4 := r.isLt

set_option maxHeartbeats 400000 in
theorem seal_any (S : Nat → Prop) (v0 : Value) (l : List UInt8) (w : World) (hb : BitsOk w) (hl : l.length ≤ 1099511627776) (hr : Bs S w v0 l) :
    Calls Tryz.prog 81 #[v0] w fun e w' => ∃ A k c, e = .returned (.slice A k c) ∧ Ob 5 w' w.heap.size (.slice A k c) (l ++ beB (sumOf l).toNat 4) ∧ Below w.heap.size w w' := by
  have HR := Lib.hid ((Sl.lt hr (by omega)).more (fun _ h => h.2))
  have HB := Lib.hid hb
  obtain ⟨A, c, rfl, hlc, hcm, hA0, hA⟩ := hr.at
  have HR0 := Lib.hid hr
  clear hA hr hA0 hb
  have hs := rg_lt (sumOf l)
  go_enter Tryz.func81, Tryz.ntmps81
  go_wp2_with fail
  refine (of_any _ _ l w hl HR0.out).mono ?_
  rintro e w1 ⟨rfl, hbl1⟩
  have hr1 := Sl.below HR.out hbl1 (fun _ h => h)
  have HR1 := Lib.hid hr1
  clear hr1
  go_wp2_with fail
  refine (put_ok _ _ l (sumOf l).toNat 4 w1 (by omega) (by omega) (by unfold U64; omega) (fun _ => by omega) (HB.out.later hbl1) hl HR1.out).mono ?_
  rintro e w2 ⟨A2, k2, c2, rfl, hown, hbl2⟩
  go_wp2_with fail
  go_ret
  exact ⟨A2, k2, c2, rfl, hown.lower hbl1.size, hbl1.trans (hbl2.mono hbl1.size)⟩
end Go.Proofs.YtildohndbeagaaaGreatDoor

namespace Go.Proofs.YtildohndbeagaaaGreatDoor
open Go Go.RowKit
theorem tS : Tryz.prog.underlying 9 = some .string := Tryz.underlying9
theorem tB : Tryz.prog.underlying 68 = some (.slice 5) := Tryz.underlying68
theorem tU : Tryz.prog.underlying 5 = some (.int .u8) := Tryz.underlying5
end Go.Proofs.YtildohndbeagaaaGreatDoor

namespace Go.Proofs.YtildohndbeagaaaGreatDoor
open Go Go.RowKit
set_option linter.unusedVariables false


theorem xor_next (a b i : Nat) : (a ^^^ b) % 2 ^ (i + 1) = (a ^^^ b) % 2 ^ i + (if a / 2 ^ i % 2 = b / 2 ^ i % 2 then 0 else 2 ^ i) := by
  rw [Nat.pow_succ, Nat.mod_mul]
  congr 1
  have ea : a.testBit i = decide (a / 2 ^ i % 2 = 1) := Nat.testBit_eq_decide_div_mod_eq
  have eb : b.testBit i = decide (b / 2 ^ i % 2 = 1) := Nat.testBit_eq_decide_div_mod_eq
  have ex : (a ^^^ b).testBit i = decide ((a ^^^ b) / 2 ^ i % 2 = 1) := Nat.testBit_eq_decide_div_mod_eq
  rw [Nat.testBit_xor, ea, eb] at ex
  have h1 := Nat.mod_two_eq_zero_or_one (a / 2 ^ i)
  have h2 := Nat.mod_two_eq_zero_or_one (b / 2 ^ i)
  have h3 := Nat.mod_two_eq_zero_or_one ((a ^^^ b) / 2 ^ i)
  rcases h1 with h1 | h1 <;> rcases h2 with h2 | h2 <;> rcases h3 with h3 | h3 <;> rw [h1, h2, h3] at ex <;> rw [h1, h2, h3] <;> simp at ex ⊢

theorem bits8_at : ∀ x, x < 256 → ∀ k, k < 8 → x / (128 / 2 ^ k) % 2 = ((bits8 x).getD k false).toNat := by decide +kernel
theorem rg_notN (r : Rg) : (4294967295 : Int) - (r.toNat : Int) = ((~~~r).toNat : Int) := by
  have := rg_lt r
  rw [BitVec.toNat_not]
  omega

/-- What was sealed: the bytes, or why not. -/
def openB (l : List UInt8) : Except Nat (List UInt8) := if l.length < 4 then .error 20 else if l.take (l.length - 4) ++ beB (sumOf (l.take (l.length - 4))).toNat 4 = l then .ok (l.take (l.length - 4)) else .error 21
end Go.Proofs.YtildohndbeagaaaGreatDoor

namespace Go.Proofs.YtildohndbeagaaaGreatDoor
open Go
set_option linter.unusedVariables false

def rdErrP (e : Nat) : Nat := if e = 10 then 30 else e
/-- Reader.Num, Reader.Text: what is taken, what is left, the fault. -/
def rdNum (l : List UInt8) (err : Nat) : Nat × List UInt8 × Nat :=
  if err ≠ 0 then (0, l, err) else match getVarB l with
    | .error er => (0, l, rdErrP er)
    | .ok (x, n) => (x, l.drop n, 0)
def rdText (l : List UInt8) (err : Nat) : List UInt8 × List UInt8 × Nat :=
  if err ≠ 0 then ([], l, err) else match getVarB l with
    | .error er => ([], l, rdErrP er)
    | .ok (x, n) => if 65536 < x then ([], l, 32) else if (l.drop n).length < x then ([], l, 30) else ((l.drop n).take x, (l.drop n).drop x, 0)
theorem rdNum_put {x : Nat} (hx : x < U64) (s : List UInt8) : rdNum (varB x ++ s) 0 = (x, s, 0) := by
  unfold rdNum
  rw [if_neg (by simp), getVarB_varB hx]
  simp
theorem rdText_put {t : List UInt8} (ht : t.length ≤ 65536) (s : List UInt8) : rdText (varB t.length ++ (t ++ s)) 0 = (t, s, 0) := by
  unfold rdText
  rw [if_neg (by simp), getVarB_varB (by unfold U64; omega)]
  simp only [List.drop_left]
  rw [if_neg (by omega), if_neg (by simp)]
  simp

/-- A record's fields; its bytes. -/
def recF (q : Nat) (t : List UInt8) : List UInt8 := varB q ++ (varB t.length ++ t)
def recS (q : Nat) (t : List UInt8) : List UInt8 := recF q t ++ beB (sumOf (recF q t)).toNat 4
def recB (q : Nat) (t : List UInt8) : List UInt8 := beB (recS q t).length 4 ++ recS q t
/-- The record that stands first, and how many bytes it has. -/
def recGet (l : List UInt8) : Option ((Nat × List UInt8) × Nat) :=
  if l.length < 4 ∨ (l.drop 4).length < deB (l.take 4) then none
  else match openB ((l.drop 4).take (deB (l.take 4))) with
    | .error _ => none
    | .ok f =>
      if (rdText (rdNum f 0).2.1 (rdNum f 0).2.2).2.2 = 0 ∧ (rdText (rdNum f 0).2.1 (rdNum f 0).2.2).2.1 = [] ∧ (rdText (rdNum f 0).2.1 (rdNum f 0).2.2).1.length ≤ 32768
      then some (((rdNum f 0).1, (rdText (rdNum f 0).2.1 (rdNum f 0).2.2).1), 4 + deB (l.take 4)) else none
theorem recF_len {q : Nat} {t : List UInt8} (hq : q < U64) (ht : t.length ≤ 32768) : (recF q t).length ≤ 32800 := by
  unfold recF
  have h1 := varB_le 9 q (Nat.lt_of_lt_of_le hq (by unfold U64; decide))
  have h2 := varB_le 9 t.length (Nat.lt_of_le_of_lt ht (by decide))
  rw [List.length_append, List.length_append]
  omega
theorem recS_len (q : Nat) (t : List UInt8) : (recS q t).length = (recF q t).length + 4 := by
  unfold recS; rw [List.length_append, beB_length]
theorem recB_len (q : Nat) (t : List UInt8) : (recB q t).length = 4 + ((recF q t).length + 4) := by
  unfold recB; rw [List.length_append, beB_length, recS_len]
theorem recB_head {q : Nat} {t : List UInt8} (hq : q < U64) (ht : t.length ≤ 32768) (s : List UInt8) : (recB q t ++ s).take 4 = beB (recS q t).length 4 ∧ (recB q t ++ s).drop 4 = recS q t ++ s ∧ deB (beB (recS q t).length 4) = (recS q t).length := by
  have h4 : (beB (recS q t).length 4).length = 4 := beB_length _ _
  refine ⟨?_, ?_, ?_⟩
  · unfold recB
    rw [List.append_assoc, List.take_append_of_le_length (by omega), List.take_of_length_le (by omega)]
  · unfold recB
    rw [List.append_assoc, List.drop_append_of_le_length (by omega), List.drop_eq_nil_of_le (by omega), List.nil_append]
  · apply deB_beB
    have := recF_len hq ht
    rw [recS_len]
    exact Nat.lt_of_le_of_lt (by omega : _ ≤ 32804) (by decide)
theorem openB_recS (q : Nat) (t : List UInt8) : openB (recS q t) = .ok (recF q t) := by
  have h4 : (beB (sumOf (recF q t)).toNat 4).length = 4 := beB_length _ _
  have e : (recS q t).take ((recS q t).length - 4) = recF q t := by
    rw [recS_len, Nat.add_sub_cancel]
    unfold recS
    rw [List.take_left]
  unfold openB
  rw [if_neg (by rw [recS_len]; omega), e]
  exact if_pos rfl
theorem recGet_put {q : Nat} {t : List UInt8} (hq : q < U64) (ht : t.length ≤ 32768) (s : List UInt8) : recGet (recB q t ++ s) = some ((q, t), (recB q t).length) := by
  obtain ⟨h1, h2, h3⟩ := recB_head hq ht s
  have hl := recB_len q t
  have e1 : rdNum (recF q t) 0 = (q, varB t.length ++ (t ++ []), 0) := by unfold recF; rw [List.append_nil]; exact rdNum_put hq _
  have e2 := rdText_put (t := t) (by omega) []
  unfold recGet
  rw [h1, h2, h3, if_neg (by rw [List.length_append, List.length_append, hl]; omega), List.take_append_of_le_length (Nat.le_refl _), List.take_of_length_le (Nat.le_refl _), openB_recS]
  simp only [e1, e2]
  rw [if_pos ⟨trivial, trivial, ht⟩, hl, recS_len]
/-- Of a record that is cut off nothing is got. -/
theorem recGet_cut {q : Nat} {t : List UInt8} (hq : q < U64) (ht : t.length ≤ 32768) {k : Nat} (hk : k < (recB q t).length) : recGet ((recB q t).take k) = none := by
  obtain ⟨h1, h2, h3⟩ := recB_head hq ht []
  rw [List.append_nil] at h1 h2
  have hl := recB_len q t
  unfold recGet
  by_cases h4 : k < 4
  · rw [if_pos (.inl (by rw [List.length_take]; omega))]
  · refine if_pos (.inr ?_)
    rw [List.take_take, Nat.min_eq_left (by omega), h1, h3, List.length_drop, List.length_take, recS_len]
    omega
end Go.Proofs.YtildohndbeagaaaGreatDoor

namespace Go.Proofs.YtildohndbeagaaaGreatDoor
open Go
set_option linter.unusedVariables false

/-- What a sector's bytes tell: a number above 0, and a body. -/
def tellsB (s : List UInt8) : Option (Nat × List UInt8) := match recGet s with
  | some ((q, t), n) => if n = s.length ∧ 0 < q then some (q, t) else none
  | none => none
/-- One sector more is looked at. -/
def mtStep (f : SF) (a : Int) (x : Nat × Int × List UInt8) (i : Int) : Nat × Int × List UInt8 := match f (a + i) with
  | some s => match tellsB s with
    | some (q, t) => if x.1 < q then (q, i, t) else x
    | none => x
  | none => x
def mtOpen (f : SF) (a : Int) : Nat × Int × List UInt8 := mtStep f a (mtStep f a (0, 1, []) 0) 1
def mtErr (x : Nat × Int × List UInt8) : Nat := if x.1 = 0 then 121 else 0

/-- The disk, the number and the last sector, behind so many steps; whether it was done; why not. -/
structure MtSt where
  D : Dsk
  num : Nat
  last : Int
  done : Bool
  err : Nat
def mtSteps (D : Dsk) (a : Int) (num : Nat) (last : Int) (body : List UInt8) (k : Int) : MtSt :=
  if 480 < body.length then ⟨D, num, last, false, 120⟩
  else if k < 1 then ⟨D, num, last, false, 0⟩
  else if k < 2 then ⟨D.free (a + (1 - last)), num, last, false, 0⟩
  else if k < 3 then ⟨(D.free (a + (1 - last))).sync, num, last, false, 0⟩
  else if (D.free (a + (1 - last))).sync.why (a + (1 - last)) (recB ((num + 1) % U64) body) ≠ 0 then
    ⟨(D.free (a + (1 - last))).sync, num, last, false, (D.free (a + (1 - last))).sync.why (a + (1 - last)) (recB ((num + 1) % U64) body)⟩
  else if k < 4 then ⟨(D.free (a + (1 - last))).sync.write (a + (1 - last)) (recB ((num + 1) % U64) body), num, last, false, 0⟩
  else ⟨((D.free (a + (1 - last))).sync.write (a + (1 - last)) (recB ((num + 1) % U64) body)).sync, (num + 1) % U64, 1 - last, true, 0⟩
end Go.Proofs.YtildohndbeagaaaGreatDoor

namespace Go.Proofs.YtildohndbeagaaaGreatDoor
open Go Go.RowKit
set_option linter.unusedVariables false

/-- A cut: the first k bytes. -/
theorem Bs.pre {S : Nat → Prop} {w : World} {l : List UInt8} {A : Option Addr} {c : Nat} (h : Bs S w (.slice A l.length c) l) {k : Nat} (hk : k ≤ l.length) : Bs S w (.slice A k c) (l.take k) := by
  obtain ⟨A', c', hv, h3, h4, h5, h6⟩ := h.at
  injection hv with hA _ hc
  subst hA hc
  have hl : (l.take k).length = k := by rw [List.length_take]; omega
  have := Bs.mk_ (S := S) (w := w) (l := l.take k) (A := A) (c := c) (by omega) h4 h5 fun hn => by
    obtain ⟨b, o, hA, hS, hcell⟩ := h6 (by omega)
    refine ⟨b, o, hA, hS, fun j hj => ?_⟩
    rw [hcell j (by omega), List.getElem_take]
  rwa [hl] at this

theorem bv_set (l : List UInt8) (j : Nat) (b : UInt8) : bv (l.set j b) = (bv l).set j (.int .u8 (b.toNat : Int)) := by simp [bv, List.map_set]
/-- One byte of the call's own is stored anew. -/
theorem Ob.store {e : TypeId} {w : World} {B g k c : Nat} {l : List UInt8} (h : Ob e w B (.slice (some ⟨g, 0, none⟩) k c) l) (j : Nat) (b : UInt8) :
    Ob e (w.setCell ⟨g, j, none⟩ (.int .u8 (b.toNat : Int))) B (.slice (some ⟨g, 0, none⟩) k c) (l.set j b) := by
  have hk := h.len
  subst hk
  unfold Ob
  rw [bv_set, List.length_set]
  exact (World.ownsRow.stored h j _).1
theorem Ob.at {e : TypeId} {w : World} {B g k c : Nat} {l : List UInt8} (h : Ob e w B (.slice (some ⟨g, 0, none⟩) k c) l) {j : Nat} (hj : j < l.length) : w.cell? ⟨g, j, none⟩ = some (.int .u8 (l[j].toNat : Int)) := by
  have hk := h.len
  subst hk
  rw [World.ownsRow.cellAt h j (by omega)]
  exact bv_at hj
theorem Ob.free {e : TypeId} {w : World} {B g k c : Nat} {l : List UInt8} (h : Ob e w B (.slice (some ⟨g, 0, none⟩) k c) l) (j : Nat) : w.frozen? ⟨g, j, none⟩ = false := by
  have hk := h.len
  subst hk
  exact World.ownsRow.frozenAt h j
theorem Ob.head {e : TypeId} {w : World} {B k c : Nat} {A : Option Addr} {l : List UInt8} (h : Ob e w B (.slice A k c) l) (hl : 0 < l.length) : ∃ g, A = some ⟨g, 0, none⟩ ∧ B ≤ g := by
  rcases h.2 with ⟨h1, h2⟩ | ⟨g, cap, cur, hv, hb, _⟩
  · omega
  · injection hv with h1 _ _
    exact ⟨g, h1, hb⟩

end Go.Proofs.YtildohndbeagaaaGreatDoor

namespace Go.Proofs.YtildohndbeagaaaGreatDoor
open Go Go.RowKit
set_option linter.unusedVariables false

/-- Block b is one of bytes, from B on. -/
def UbS (w : World) (B b : Nat) : Prop := B ≤ b ∧ ∃ cs fz, w.heap[b]? = some (.cells cs 5 fz)
/-- The slice value v reads as l, in blocks of bytes from B on. -/
def Ub (w : World) (B : Nat) (v : Value) (l : List UInt8) : Prop := Bs (UbS w B) w v l
theorem Ub.of_own {w : World} {B : Nat} {v : Value} {l : List UInt8} (h : Ob 5 w B v l) : Ub w B v l := by
  have hs := h.bs
  rcases h.2 with ⟨rfl, hn⟩ | ⟨g, cap, cur, rfl, hB, hh, _⟩
  · obtain ⟨h1, A, c, h2, h3, h4, h5, h6⟩ := hs
    exact ⟨h1, A, c, h2, h3, h4, h5, fun hl => by omega⟩
  · obtain ⟨h1, A, c, h2, h3, h4, h5, h6⟩ := hs
    refine ⟨h1, A, c, h2, h3, h4, h5, fun hl => ?_⟩
    obtain ⟨b, o, hA, _, hc⟩ := h6 hl
    injection h2 with hA2
    rw [hA] at hA2
    injection hA2 with hA2
    injection hA2 with hb
    subst hb
    exact ⟨g, o, hA, ⟨hB, _, _, hh⟩, hc⟩
theorem Ub.bs {w : World} {B : Nat} {v : Value} {l : List UInt8} (h : Ub w B v l) : Bs (fun _ => True) w v l := Sl.more h fun _ _ => trivial
theorem Ub.len {w : World} {B : Nat} {A : Option Addr} {k c : Nat} {l : List UInt8} (h : Ub w B (.slice A k c) l) : k = l.length := by
  obtain ⟨_, A', c', hv, _⟩ := h
  injection hv
theorem Ub.keep {w w' : World} {B : Nat} {v : Value} {l : List UInt8} (h : Ub w B v l) (hk : ∀ b, UbS w B b → w'.heap[b]? = w.heap[b]?) : Ub w' B v l := by
  obtain ⟨h1, A, c, h2, h3, h4, h5, h6⟩ := h
  refine ⟨h1, A, c, h2, h3, h4, h5, fun hl => ?_⟩
  obtain ⟨b, o, hA, hs, hc⟩ := h6 hl
  have hb := hk b hs
  obtain ⟨hB, cs, fz, hh⟩ := hs
  refine ⟨b, o, hA, ⟨hB, cs, fz, hb.trans hh⟩, fun j u hu => ?_⟩
  rw [World.cell?_of_block (a := ⟨b, o + j, none⟩) hb]
  exact hc j u hu
theorem Ub.later {w w' : World} {B : Nat} {v : Value} {l : List UInt8} (h : Ub w B v l) (hb : Below w.heap.size w w') : Ub w' B v l :=
  h.keep fun b ⟨_, cs, fz, hh⟩ => hb.block b (lt_of_block hh)
theorem Ub.lower {w : World} {B B' : Nat} {v : Value} {l : List UInt8} (h : Ub w B v l) (hB : B' ≤ B) : Ub w B' v l := Sl.more h fun b ⟨h1, h2⟩ => ⟨Nat.le_trans hB h1, h2⟩
/-- A block of another type is written, and new ones made. -/
theorem Ub.beside {w w' : World} {B : Nat} {v : Value} {l : List UInt8} (h : Ub w B v l) {g : Nat} {t : TypeId} {cs : Array Value} (hb : Blk w g t cs) (hne : 5 ≠ t) (hg : w.grownBy w' (some g)) : Ub w' B v l :=
  h.keep fun b ⟨_, cs', fz, hh⟩ => hg.block b (lt_of_block hh) (fun e => by
    injection e with e
    subst e
    unfold Blk at hb
    rw [hh] at hb
    injection hb with hb
    injection hb with _ hb
    exact hne hb)
end Go.Proofs.YtildohndbeagaaaGreatDoor

namespace Go.Proofs.YtildohndbeagaaaGreatDoor
open Go Go.RowKit
set_option linter.unusedVariables false

/-- The slice value v owns the values xs, of element type e, in a block from B on. -/
def Ow (e : TypeId) (w : World) (B : Nat) (v : Value) (xs : List Value) : Prop := w.ownsRow B e 1 v xs.length xs
section
variable {e : TypeId} {w w' : World} {B : Nat} {v : Value} {xs : List Value}
theorem Ow.made (e : TypeId) (w : World) (B : Nat) (hB : B ≤ w.heap.size) {g : Nat} (hg : g = w.heap.size) : Ow e (w.alloc (.cells #[] e)) B (.slice (some ⟨g, 0, none⟩) 0 0) [] := by
  subst hg
  exact World.ownsRow_made w #[] 0 hB (by simp [maxLen]) (by simp)
theorem Ow.nil (e : TypeId) (w : World) (B : Nat) : Ow e w B (.slice none 0 0) [] := World.ownsRow_nil w B e 1
theorem Ow.lower {B' : Nat} (h : Ow e w B v xs) (hB : B' ≤ B) : Ow e w B' v xs := by
  obtain ⟨h1, h2⟩ := h
  refine ⟨h1, ?_⟩
  rcases h2 with h2 | ⟨g, cap, cur, hv, hg, r⟩
  · exact .inl h2
  · exact .inr ⟨g, cap, cur, hv, Nat.le_trans hB hg, r⟩
theorem Ow.later (h : Ow e w B v xs) (hb : Below w.heap.size w w') : Ow e w' B v xs := by
  obtain ⟨h1, h2⟩ := h
  refine ⟨h1, ?_⟩
  rcases h2 with h2 | ⟨g, cap, cur, hv, hg, hh, r⟩
  · exact .inl h2
  · exact .inr ⟨g, cap, cur, hv, hg, (hb.block g (lt_of_block hh)).trans hh, r⟩
/-- A block of another type was written, and new ones made. -/
theorem Ow.beside (h : Ow e w B v xs) {g' : Nat} {t : TypeId} {cs : Array Value} (hb : Blk w g' t cs) (hne : e ≠ t) (hg : w.grownBy w' (some g')) : Ow e w' B v xs := by
  have hn := own_ne h hb hne
  obtain ⟨h1, h2⟩ := h
  refine ⟨h1, ?_⟩
  rcases h2 with h2 | ⟨g, cap, cur, hv, hB, hh, r⟩
  · exact .inl h2
  · refine .inr ⟨g, cap, cur, hv, hB, ?_, r⟩
    exact (hg.block g (lt_of_block hh) (fun e => hn (by rw [hv]; simp [Value.ownBlock]; injection e))).trans hh
theorem Ow.sl (h : Ow e w B v xs) : Sl (fun b => B ≤ b ∧ b < w.heap.size) w 1 v xs.length xs := Sl.of_own (by omega) h
/-- What the slice is, where it is not empty. -/
theorem Ow.open (h : Ow e w B v xs) (hl : 0 < xs.length) : ∃ g c, v = .slice (some ⟨g, 0, none⟩) xs.length c ∧ B ≤ g ∧ g < w.heap.size ∧ (∀ j (hj : j < xs.length), w.cell? ⟨g, j, none⟩ = some xs[j]) ∧ ∀ j, w.frozen? ⟨g, j, none⟩ = false := by
  have h0 := h
  rcases h.2 with ⟨_, h2⟩ | ⟨g, cap, cur, rfl, hb, hh, _⟩
  · omega
  · refine ⟨g, cap, rfl, hb, lt_of_block hh, fun j hj => ?_, fun j => World.ownsRow.frozenAt h0 j⟩
    rw [World.ownsRow.cellAt h0 j (by omega), List.getElem?_eq_getElem hj]
/-- What it is in any case. -/
theorem Ow.shape (h : Ow e w B v xs) : ∃ A c, v = .slice A xs.length c ∧ (0 < xs.length → ∃ g, A = some ⟨g, 0, none⟩ ∧ B ≤ g ∧ g < w.heap.size ∧ ∀ j (hj : j < xs.length), w.cell? ⟨g, j, none⟩ = some xs[j]) := by
  obtain ⟨A, k, c, rfl⟩ := own_slice h
  obtain rfl := own_len h
  refine ⟨A, c, rfl, fun hl => ?_⟩
  obtain ⟨g, c', hv, hB, hlt, hc, _⟩ := h.open hl
  injection hv with hA
  exact ⟨g, hA, hB, hlt, hc⟩
/-- One element is stored anew. -/
theorem Ow.store {g k c : Nat} (h : Ow e w B (.slice (some ⟨g, 0, none⟩) k c) xs) (j : Nat) (u : Value) : Ow e (w.setCell ⟨g, j, none⟩ u) B (.slice (some ⟨g, 0, none⟩) k c) (xs.set j u) := by
  have hk := own_len h
  subst hk
  unfold Ow
  rw [List.length_set]
  exact (World.ownsRow.stored h j u).1
end

/-- Flags as values; pages as values. -/
def bl (l : List Bool) : List Value := l.map .bool
def il (l : List Nat) : List Value := l.map fun (n : Nat) => Value.int .i64 (n : Int)
theorem bl_len (l : List Bool) : (bl l).length = l.length := by simp [bl]
theorem il_len (l : List Nat) : (il l).length = l.length := by simp [il]
theorem bl_one (l : List Bool) : ∀ u ∈ bl l, u.oneCell' = true := by
  intro u hu
  obtain ⟨_, _, rfl⟩ := List.mem_map.1 hu
  rfl
theorem il_one (l : List Nat) : ∀ u ∈ il l, u.oneCell' = true := by
  intro u hu
  obtain ⟨_, _, rfl⟩ := List.mem_map.1 hu
  rfl
theorem bl_set (l : List Bool) (j : Nat) (b : Bool) : (bl l).set j (.bool b) = bl (l.set j b) := by simp [bl, List.map_set]
theorem bl_at {l : List Bool} {j : Nat} (h : j < (bl l).length) : (bl l)[j] = .bool (l.getD j false) := by
  have : j < l.length := by simpa [bl] using h
  simp [bl, List.getD_eq_getElem?_getD, this]
theorem il_at {l : List Nat} {j : Nat} (h : j < (il l).length) : (il l)[j] = .int .i64 (l.getD j 0 : Nat) := by
  have : j < l.length := by simpa [il] using h
  simp [il, List.getD_eq_getElem?_getD, this]
end Go.Proofs.YtildohndbeagaaaGreatDoor

namespace Go.Proofs.YtildohndbeagaaaGreatDoor
open Go Go.RowKit
set_option linter.unusedVariables false
set_option linter.unusedSimpArgs false

/-- What a value is, in a world. -/
abbrev VP := Value → World → Prop
/-- The one value. -/
def Is (c : Value) : VP := fun v _ => v = c
def Stays (V : VP) : Prop := ∀ v w w', Below w.heap.size w w' → V v w → V v w'
theorem Stays.is (c : Value) : Stays (Is c) := fun _ _ _ _ h => h

section
variable {P : Program} {ops : Array Oper}

def growsUpon (P : Program) (w : World) (V : VP) : Result Next → Prop
  | .ok (.value u) w' => Below w.heap.size w w' ∧ V u w'
  | .ok .skip w' => Below w.heap.size w w' ∧ V undef w'
  | .ok (.enter f args) w' => Below w.heap.size w w' ∧ Calls P f args w' (fun e w'' => ∃ v, e = .returned v ∧ Below w'.heap.size w' w'' ∧ V v w'')
  | _ => False
/-- Run in w, the operation yields a value of V; memory has only grown. -/
def grows (P : Program) (o : Oper) (a : Act) (w : World) (V : VP) : Prop := growsUpon P w V ((execOp a.eval o).run P w)

theorem grow_trans {a b c : World} (h : Below a.heap.size a b) (k : Below b.heap.size b c) : Below a.heap.size a c := h.trans (k.mono h.size)

theorem wp_of_grows {o : Oper} {a : Act} {w : World} {V : VP} {K : Act → World → Prop} {Q : Exit → Act → World → Prop} (h : grows P o a w V)
    (hK : ∀ v w', Below w.heap.size w w' → V v w' → K (a.put o.dst v) w') : o.wp P a w K Q := by
  unfold grows at h
  unfold Oper.wp
  generalize (execOp a.eval o).run P w = r at *
  cases r with
  | ok n w' =>
    cases n <;> simp only [growsUpon] at h <;> simp only [Oper.upon]
    case value u => exact hK _ _ h.1 h.2
    case skip => exact hK _ _ h.1 h.2
    case enter f args =>
      exact h.2.mono fun e w'' ⟨v, he, hb, hv⟩ => by subst he; exact hK _ _ (grow_trans h.1 hb) hv
  | halt x w' => simp only [growsUpon] at h

theorem exists_of_grows {o : Oper} {a : Act} {w : World} {V : VP} (h : grows P o a w V) : ∃ v w', Below w.heap.size w w' ∧ V v w' := by
  unfold grows at h
  generalize (execOp a.eval o).run P w = r at *
  cases r with
  | ok n w' =>
    cases n <;> simp only [growsUpon] at h
    case value u => exact ⟨u, w', h⟩
    case skip => exact ⟨_, w', h⟩
    case enter f args =>
      obtain ⟨e, w'', fr, ⟨v, _, hb, hv⟩, _⟩ := h.2 []
      exact ⟨v, w'', grow_trans h.1 hb, hv⟩
  | halt x w' => simp only [growsUpon] at h

/-- The walk in the order of the text. 'env': what the operations ahead have yielded. -/
def wpGrow (P : Program) (ops : Array Oper) (C : World → Prop) (Q : Act → World → Prop) : List Oper → List VP → List (Value × VP) → Act → Prop
  | o :: rest, V :: Vs, env, a =>
    (if Region.wanted o (yielded ops a.tmps) then ∀ w, C w → (∀ e ∈ o.after, Region.binds .any e = true → ∀ (x : Value) (W : VP), env[e.on]? = some (x, W) → W x w) → grows P o a w V else ∀ w, C w → V undef w) ∧
    ∀ x, (∃ w, C w ∧ V x w) → wpGrow P ops C Q rest Vs (env ++ [(x, V)]) (a.put o.dst x)
  | [], [], env, a => ∀ w, C w → (∀ (j : Nat) (x : Value) (W : VP), env[j]? = some (x, W) → W x w) → Q a w
  | _, _, _, _ => False

def dstOf (ops : Array Oper) (j : Nat) : Option Tmp := (ops[j]?).bind (·.dst)
/-- Operation i waits for j. -/
def waits (ops : Array Oper) (i j : Nat) : Bool := ((ops[i]?).map fun (o : Oper) => o.after.any fun e => e.on == j && Region.binds .any e).getD false

/-- What the theorem asks of the region's text: each waits for earlier ones alone; no slot is written twice; what an operation looks at is written by one for which it waits, or by one that waits for it, or by none other. -/
def growB (ops : Array Oper) : Bool :=
  (List.range ops.size).all fun i =>
    ((List.range ops.size).all fun j => (!waits ops i j || decide (j < i)) && (decide (i = j) || (dstOf ops i).isNone || dstOf ops i != dstOf ops j) &&
      (match ops[i]?, dstOf ops j with
       | some o, some s => !(o.looksAt ops).contains s || waits ops i j || waits ops j i || decide (i = j)
       | _, _ => true))
      && ((ops[i]?).map fun (o : Oper) => match o.op with | .select _ _ => false | _ => o.after.all fun e => !Region.binds .any e || decide (e.on < i)).getD true

theorem growB_spec (h : growB ops = true) : (∀ (i : Nat) (o : Oper), ops[i]? = some o → ∀ e ∈ o.after, Region.binds .any e = true → e.on < i) ∧
    (∀ (i j : Nat) (s : Tmp), i < ops.size → j < ops.size → dstOf ops i = some s → dstOf ops j = some s → i = j) ∧
    (∀ (i j : Nat) (o : Oper) (s : Tmp), ops[i]? = some o → j < ops.size → dstOf ops j = some s → s ∈ o.looksAt ops → waits ops i j = true ∨ waits ops j i = true ∨ i = j) ∧
    (∀ (i : Nat) (o : Oper) cs b, ops[i]? = some o → o.op ≠ .select cs b) := by
  unfold growB at h
  rw [List.all_eq_true] at h
  have hall : ∀ i, i < ops.size → _ := fun i hi => (Bool.and_eq_true _ _).mp (h i (List.mem_range.2 hi))
  have hlt : ∀ {i o}, ops[i]? = some o → i < ops.size := fun ho => (Array.getElem?_eq_some_iff.1 ho).1
  refine ⟨fun i o ho e he hb => ?_, fun i j s hi hj h1 h2 => ?_, fun i j o s ho hj hd hs => ?_, fun i o cs b ho hop => ?_⟩
  · have h2 := (hall i (hlt ho)).2
    rw [ho] at h2
    simp only [Option.map_some, Option.getD_some] at h2
    split at h2
    · cases h2
    · rw [Array.all_eq_true_iff_forall_mem] at h2
      have := h2 e he
      simpa [hb] using this
  · have h3 := (hall i hi).1
    rw [List.all_eq_true] at h3
    have h4 := h3 j (List.mem_range.2 hj)
    simp only [Bool.and_eq_true] at h4
    have h5 := h4.1.2
    rw [h1, h2] at h5
    simpa using h5
  · have h3 := (hall i (hlt ho)).1
    rw [List.all_eq_true] at h3
    have h4 := h3 j (List.mem_range.2 hj)
    simp only [Bool.and_eq_true] at h4
    have h5 := h4.2
    rw [ho, hd] at h5
    simp only [Bool.or_eq_true, Bool.not_eq_true', decide_eq_true_eq] at h5
    rcases h5 with ((h5 | h5) | h5) | h5
    · simp only [List.contains_eq_mem, decide_eq_false_iff_not] at h5
      exact absurd hs h5
    · exact .inl h5
    · exact .inr (.inl h5)
    · exact .inr (.inr h5)
  · have h2 := (hall i (hlt ho)).2
    rw [ho] at h2
    simp only [Option.map_some, Option.getD_some, hop] at h2
    cases h2

theorem waits_iff {i j : Nat} {o : Oper} (ho : ops[i]? = some o) : waits ops i j = true ↔ ∃ e ∈ o.after, e.on = j ∧ Region.binds .any e = true := by
  unfold waits
  rw [ho]
  simp only [Option.map_some, Option.getD_some, Array.any_eq_true, Bool.and_eq_true, beq_iff_eq]
  constructor
  · rintro ⟨k, hk, h⟩
    exact ⟨_, Array.getElem_mem hk, h⟩
  · rintro ⟨e, he, h⟩
    obtain ⟨k, hk, rfl⟩ := Array.mem_iff_getElem.1 he
    exact ⟨k, hk, h⟩

/-- Slot by slot: where the operations that 'f' tells have been laid. -/
structure Laid (ops : Array Oper) (a0 : Act) (f : Nat → Option Value) (a : Act) : Prop where
  defers : a.defers = a0.defers
  size : a.tmps.size = a0.tmps.size
  put : ∀ j s x, j < ops.size → dstOf ops j = some s → f j = some x → a.tmps[s]? = (a0.tmps[s]?).map fun _ => x
  off : ∀ s, (∀ j, j < ops.size → dstOf ops j = some s → f j = none) → a.tmps[s]? = a0.tmps[s]?

theorem Laid.start (a0 : Act) : Laid ops a0 (fun _ => none) a0 := ⟨rfl, rfl, (fun _ _ _ _ _ h => by cases h), fun _ _ => rfl⟩

theorem Laid.next {a0 a : Act} {f : Nat → Option Value} (hg : growB ops = true) (h : Laid ops a0 f a) {k : Nat} {o : Oper} (ho : ops[k]? = some o) (hf : f k = none) (x : Value) :
    Laid ops a0 (fun j => if j = k then some x else f j) (a.put o.dst x) := by
  obtain ⟨_, hdist, _, _⟩ := growB_spec hg
  have hk : k < ops.size := (Array.getElem?_eq_some_iff.1 ho).1
  have hdk : dstOf ops k = o.dst := by simp [dstOf, ho]
  cases hd : o.dst with
  | none =>
    refine ⟨h.defers, h.size, fun j s y hj hs hy => ?_, fun s hs => ?_⟩
    · have hne : j ≠ k := by rintro rfl; rw [hdk, hd] at hs; cases hs
      simp only [hne, if_false] at hy
      exact h.put j s y hj hs hy
    · refine h.off s fun j hj hjs => ?_
      have hne : j ≠ k := by rintro rfl; rw [hdk, hd] at hjs; cases hjs
      have := hs j hj hjs
      simpa only [hne, if_false] using this
  | some d =>
    refine ⟨h.defers, by simp [Act.put, h.size], fun j s y hj hs hy => ?_, fun s hs => ?_⟩
    · by_cases hjk : j = k
      · subst hjk
        rw [hdk, hd] at hs
        obtain rfl : d = s := by simpa using hs
        simp only [if_true] at hy
        obtain rfl : x = y := by simpa using hy
        show (a.tmps.setIfInBounds d x)[d]? = _
        have e := h.off d (fun j' hj' hs' => by
          have := hdist j' j d hj' hj hs' (by rw [hdk, hd])
          subst this
          exact hf)
        rcases Nat.lt_or_ge d a.tmps.size with hlt | hge
        · rw [Array.getElem?_setIfInBounds_self_of_lt hlt, ← e, Array.getElem?_eq_getElem hlt]; rfl
        · rw [← e, Array.getElem?_eq_none (by simpa using hge), Array.getElem?_eq_none hge]; rfl
      · simp only [hjk, if_false] at hy
        have hne : d ≠ s := by
          rintro rfl
          exact hjk (hdist j k d hj hk hs (by rw [hdk, hd]))
        show (a.tmps.setIfInBounds d x)[s]? = _
        rw [Array.getElem?_setIfInBounds_ne hne]
        exact h.put j s y hj hs hy
    · have hne : d ≠ s := by
        rintro rfl
        have := hs k hk (by rw [hdk, hd])
        simp at this
      show (a.tmps.setIfInBounds d x)[s]? = _
      rw [Array.getElem?_setIfInBounds_ne hne]
      refine h.off s fun j hj hjs => ?_
      have hjk : j ≠ k := by
        rintro rfl
        rw [hdk, hd] at hjs
        exact hne (by simpa using hjs)
      have := hs j hj hjs
      simpa only [hjk, if_false] using this

/-- Frames that agree where an operation looks are one to it. -/
theorem exec_agree {o : Oper} (hsel : ∀ cs b, o.op ≠ .select cs b) {a a' : Act} (h : ∀ t ∈ o.looksAt ops, a.tmps[t]? = a'.tmps[t]?) :
    execOp a.eval o = execOp a'.eval o ∧ Region.wanted o (yielded ops a.tmps) = Region.wanted o (yielded ops a'.tmps) := by
  constructor
  · refine execOp_congr o hsel fun x hx => ?_
    cases x with
    | tmp t =>
      have := h t (List.mem_append_left _ (List.mem_filterMap.2 ⟨.tmp t, by simpa using hx, rfl⟩))
      simp only [Act.eval, Array.getD_eq_getD_getElem?, this]
    | _ => rfl
  · unfold Region.wanted
    cases hg : o.guard with
    | none => rfl
    | some gw =>
      obtain ⟨g, want⟩ := gw
      have hy : yielded ops a.tmps g = yielded ops a'.tmps g := by
        unfold yielded
        cases ht : (ops[g]?).bind (·.dst) with
        | none => rfl
        | some t =>
          have := h t (by simp [Oper.looksAt, hg, ht])
          simp [this]
      simp only [hy]

theorem Laid.congr {a0 a : Act} {f g : Nat → Option Value} (h : Laid ops a0 f a) (hfg : ∀ j, j < ops.size → f j = g j) : Laid ops a0 g a :=
  ⟨h.defers, h.size, fun j s x hj hs hx => h.put j s x hj hs (by rw [hfg j hj]; exact hx), fun s hs => h.off s fun j hj hjs => by rw [hfg j hj]; exact hs j hj hjs⟩

theorem Laid.same {a0 a a' : Act} {f : Nat → Option Value} (h : Laid ops a0 f a) (h' : Laid ops a0 f a') : a = a' := by
  have ht : a.tmps = a'.tmps := by
    apply Array.ext_getElem?
    intro s
    by_cases hs : ∃ j x, j < ops.size ∧ dstOf ops j = some s ∧ f j = some x
    · obtain ⟨j, x, hj, hd, hf⟩ := hs
      rw [h.put j s x hj hd hf, h'.put j s x hj hd hf]
    · have hoff : ∀ j, j < ops.size → dstOf ops j = some s → f j = none := fun j hj hd => by
        cases hf : f j with
        | none => rfl
        | some x => exact absurd ⟨j, x, hj, hd, hf⟩ hs
      rw [h.off s hoff, h'.off s hoff]
  have hd : a.defers = a'.defers := h.defers.trans h'.defers.symm
  cases a
  cases a'
  simp only at ht hd
  subst ht hd
  rfl

/-- The frame behind the first k operations, in the order of the text, y being what they yielded. -/
def lexA (ops : Array Oper) (a0 : Act) (y : Nat → Value) : Nat → Act
  | 0 => a0
  | k + 1 => (lexA ops a0 y k).put (dstOf ops k) (y k)

theorem lexA_laid (hg : growB ops = true) (a0 : Act) (y : Nat → Value) : ∀ k, k ≤ ops.size → Laid ops a0 (fun j => if j < k then some (y j) else none) (lexA ops a0 y k)
  | 0, _ => (Laid.start a0).congr fun j _ => by simp
  | k + 1, hk => by
    have ho : ops[k]? = some ops[k] := Array.getElem?_eq_getElem (by omega)
    have h := (lexA_laid hg a0 y k (by omega)).next hg ho (by simp) (y k)
    have e : dstOf ops k = ops[k].dst := by simp [dstOf, ho]
    rw [lexA, e]
    refine h.congr fun j _ => ?_
    by_cases hj : j = k
    · subst hj; simp
    · by_cases hj2 : j < k
      · simp [hj, hj2, Nat.lt_succ_of_lt hj2]
      · have : ¬ j < k + 1 := by omega
        simp [hj, hj2, this]

theorem lexA_eq {a0 : Act} {y z : Nat → Value} : ∀ k, (∀ j, j < k → y j = z j) → lexA ops a0 y k = lexA ops a0 z k
  | 0, _ => rfl
  | k + 1, h => by rw [lexA, lexA, lexA_eq k fun j hj => h j (by omega), h k (by omega)]

def vAt (Vs : List VP) (j : Nat) : VP := Vs.getD j fun _ _ => True
def envAt (Vs : List VP) (y : Nat → Value) (k : Nat) : List (Value × VP) := (List.range k).map fun j => (y j, vAt Vs j)
theorem envAt_get {Vs : List VP} {y : Nat → Value} {k j : Nat} {x : Value} {W : VP} (h : (envAt Vs y k)[j]? = some (x, W)) : j < k ∧ x = y j ∧ W = vAt Vs j := by
  unfold envAt at h
  rw [List.getElem?_map] at h
  rcases Nat.lt_or_ge j k with hj | hj
  · rw [List.getElem?_range hj] at h
    simp only [Option.map_some, Option.some.injEq, Prod.mk.injEq] at h
    exact ⟨hj, h.1.symm, h.2.symm⟩
  · rw [List.getElem?_eq_none (by simpa using hj)] at h
    cases h

variable {C : World → Prop} {Q : Act → World → Prop} {Vs : List VP} {a0 : Act}

theorem wpGrow_at (hlen : Vs.length = ops.size) (h0 : wpGrow P ops C Q ops.toList Vs [] a0) (y : Nat → Value) : ∀ k, k ≤ ops.size → (∀ j, j < k → ∃ w, C w ∧ vAt Vs j (y j) w) →
    wpGrow P ops C Q (ops.toList.drop k) (Vs.drop k) (envAt Vs y k) (lexA ops a0 y k)
  | 0, _, _ => by simpa [envAt, lexA] using h0
  | k + 1, hk, hy => by
    have ih := wpGrow_at hlen h0 y k (by omega) fun j hj => hy j (by omega)
    have hk1 : k < ops.toList.length := by rw [Array.length_toList]; omega
    have hk2 : k < Vs.length := by omega
    rw [List.drop_eq_getElem_cons (l := ops.toList) hk1, List.drop_eq_getElem_cons (l := Vs) hk2] at ih
    have h2 := ih.2 (y k) (by
      obtain ⟨w, hw, hv⟩ := hy k (by omega)
      refine ⟨w, hw, ?_⟩
      have e : vAt Vs k = Vs[k]'(by omega) := by simp [vAt, List.getD, List.getElem?_eq_getElem (show k < Vs.length by omega)]
      rw [e] at hv
      exact hv)
    have e1 : envAt Vs y (k + 1) = envAt Vs y k ++ [(y k, Vs[k]'(by omega))] := by
      simp [envAt, List.range_succ, vAt, List.getD, List.getElem?_eq_getElem (show k < Vs.length by omega)]
    have e2 : lexA ops a0 y (k + 1) = (lexA ops a0 y k).put (ops.toList[k]'(by rw [Array.length_toList]; omega)).dst (y k) := by
      rw [lexA]
      congr 1
      simp [dstOf, Array.getElem?_eq_getElem (show k < ops.size by omega)]
    rw [e1, e2]
    exact h2

theorem getD_of {l : Array Bool} {j : Nat} (h : l.getD j true = false) : l.getD j false = false := by
  rcases Nat.lt_or_ge j l.size with hj | hj
  · simpa [Array.getD, hj] using h
  · simp [Array.getD, hj, Nat.not_lt.2 hj]

/-- What has not come up yet could come up in the order of the text. -/
theorem exists_prefix (hg : growB ops = true) (hS : ∀ V ∈ Vs, Stays V) (hC : ∀ w w', C w → Below w.heap.size w w' → C w') (hlen : Vs.length = ops.size)
    (h0 : wpGrow P ops C Q ops.toList Vs [] a0) {w : World} (hw : C w) {L : Nat → Bool} {x : Nat → Value} (hx : ∀ j, j < ops.size → L j = true → vAt Vs j (x j) w) :
    ∀ k, k ≤ ops.size → ∃ (y : Nat → Value) (w' : World), Below w.heap.size w w' ∧ (∀ j, L j = true → y j = x j) ∧ ∀ j, j < k → vAt Vs j (y j) w'
  | 0, _ => ⟨x, w, Below.refl _ _, fun _ _ => rfl, fun j hj => by omega⟩
  | k + 1, hk => by
    obtain ⟨y, w', hb, hyx, hy⟩ := exists_prefix hg hS hC hlen h0 hw hx k (by omega)
    have hst : ∀ j, j < ops.size → Stays (vAt Vs j) := fun j hj => by
      have e : vAt Vs j = Vs[j]'(by omega) := by simp [vAt, List.getD, List.getElem?_eq_getElem (show j < Vs.length by omega)]
      rw [e]
      exact hS _ (List.getElem_mem _)
    have hcw' := hC w w' hw hb
    by_cases hL : L k = true
    · refine ⟨y, w', hb, hyx, fun j hj => ?_⟩
      by_cases hjk : j = k
      · subst hjk
        rw [hyx j hL]
        exact hst j (by omega) _ _ _ hb (hx j (by omega) hL)
      · exact hy j (by omega)
    · have hat := wpGrow_at hlen h0 y k (by omega) fun j hj => ⟨w', hcw', hy j hj⟩
      have hk1 : k < ops.toList.length := by rw [Array.length_toList]; omega
      have hk2 : k < Vs.length := by omega
      rw [List.drop_eq_getElem_cons (l := ops.toList) hk1, List.drop_eq_getElem_cons (l := Vs) hk2] at hat
      have e : vAt Vs k = Vs[k]'(by omega) := by simp [vAt, List.getD, List.getElem?_eq_getElem (show k < Vs.length by omega)]
      have hex : ∃ v w'', Below w'.heap.size w' w'' ∧ vAt Vs k v w'' := by
        have h1 := hat.1
        split at h1
        · obtain ⟨v, w'', hbb, hv⟩ := exists_of_grows (h1 w' hcw' fun e he hbd x W hxW => by
            obtain ⟨hlt, rfl, rfl⟩ := envAt_get hxW
            exact hy _ hlt)
          exact ⟨v, w'', hbb, by rw [e]; exact hv⟩
        · exact ⟨undef, w', Below.refl _ _, by rw [e]; exact h1 w' hcw'⟩
      obtain ⟨v, w'', hbb, hv⟩ := hex
      refine ⟨fun j => if j = k then v else y j, w'', grow_trans hb hbb, fun j hj => ?_, fun j hj => ?_⟩
      · have hne : j ≠ k := by rintro rfl; exact hL hj
        simp only [hne, if_false]
        exact hyx j hj
      · by_cases hjk : j = k
        · subst hjk
          simpa using hv
        · simp only [hjk, if_false]
          exact hst j (by omega) _ _ _ hbb (hy j (by omega))

theorem len_filter_lt {α : Type} {p q : α → Bool} : ∀ (l : List α), (∀ x ∈ l, q x = true → p x = true) → ∀ i ∈ l, p i = true → q i = false → (l.filter q).length < (l.filter p).length
  | [], _, i, hi, _, _ => by cases hi
  | a :: l, hpq, i, hi, hp, hq => by
    have hle : ∀ (l : List α), (∀ x ∈ l, q x = true → p x = true) → (l.filter q).length ≤ (l.filter p).length := by
      intro l
      induction l with
      | nil => intro _; simp
      | cons b l ih =>
        intro h
        have := ih fun x hx => h x (List.mem_cons_of_mem _ hx)
        by_cases hqb : q b = true
        · simp [List.filter_cons, hqb, h b (List.mem_cons_self ..) hqb]; omega
        · by_cases hpb : p b = true <;> simp [List.filter_cons, hqb, hpb] <;> omega
    have h2 := hle l fun x hx => hpq x (List.mem_cons_of_mem _ hx)
    rcases List.mem_cons.1 hi with rfl | hi'
    · simp [List.filter_cons, hp, hq]; omega
    · have h3 := len_filter_lt l (fun x hx => hpq x (List.mem_cons_of_mem _ hx)) i hi' hp hq
      by_cases hqb : q a = true
      · simp [List.filter_cons, hqb, hpq a (List.mem_cons_self ..) hqb]; omega
      · by_cases hpb : p a = true <;> simp [List.filter_cons, hqb, hpb] <;> omega

def unl (n : Nat) (listed : Array Bool) : Nat := ((List.range n).filter fun j => !listed.getD j true).length

theorem wpGrow_any (hg : growB ops = true) (hS : ∀ V ∈ Vs, Stays V) (hC : ∀ w w', C w → Below w.heap.size w w' → C w') (hlen : Vs.length = ops.size)
    (h0 : wpGrow P ops C Q ops.toList Vs [] a0) {Q' : Exit → Act → World → Prop} (hQ : ∀ a w, Q a w → Q' .normal a w) :
    ∀ (fuel : Nat) (listed : Array Bool) (a : Act) (w : World) (x : Nat → Value), listed.size = ops.size → C w → Laid ops a0 (fun j => if listed.getD j false then some (x j) else none) a →
      (∀ j, j < ops.size → listed.getD j false = true → vAt Vs j (x j) w) → (∀ (i : Nat) (o : Oper), ops[i]? = some o → listed.getD i false = true → ∀ e ∈ o.after, Region.binds .any e = true → listed.getD e.on false = true) →
      unl ops.size listed ≤ fuel → wpAny P .any ops Q' fuel listed a w := by
  obtain ⟨hs1, hs2, hs3, hs4⟩ := growB_spec hg
  have hlt : ∀ {i : Nat} {o : Oper}, ops[i]? = some o → i < ops.size := fun ho => (Array.getElem?_eq_some_iff.1 ho).1
  -- where nothing may come up any more, all has come up
  have hend : ∀ (listed : Array Bool) (a : Act) (w : World) (x : Nat → Value), listed.size = ops.size → C w → Laid ops a0 (fun j => if listed.getD j false then some (x j) else none) a →
      (∀ j, j < ops.size → listed.getD j false = true → vAt Vs j (x j) w) → Region.ready .any ops listed = [] → Q' .normal a w := by
    intro listed a w x hsz hw hL hx hr
    have hall : ∀ n, ∀ j, j < n → j < ops.size → listed.getD j false = true := by
      intro n
      induction n with
      | zero => intro j hj; omega
      | succ n ih =>
        intro j hj hjs
        rcases Nat.lt_or_ge j n with hjn | hjn
        · exact ih j hjn hjs
        · obtain rfl : j = n := by omega
          cases hlj : listed.getD j false with
          | true => rfl
          | false =>
            exfalso
            have : j ∈ Region.ready .any ops listed := mem_ready.2 ⟨by
              have hj' : j < listed.size := by omega
              simpa [Array.getD, hj'] using hlj, ops[j], Array.getElem?_eq_getElem hjs, fun e he hb => ih e.on (hs1 j _ (Array.getElem?_eq_getElem hjs) e he hb) (by have := hs1 j _ (Array.getElem?_eq_getElem hjs) e he hb; omega)⟩
            rw [hr] at this
            cases this
    have hat := wpGrow_at hlen h0 x ops.size (Nat.le_refl _) fun j hj => ⟨w, hw, hx j hj (hall _ j hj hj)⟩
    rw [List.drop_of_length_le (by simp), List.drop_of_length_le (by omega)] at hat
    have hq := hat w hw fun j x' W hxW => by
      obtain ⟨hj, rfl, rfl⟩ := envAt_get hxW
      exact hx j hj (hall _ j hj hj)
    have he : a = lexA ops a0 x ops.size := Laid.same hL ((lexA_laid hg a0 x ops.size (Nat.le_refl _)).congr fun j hj => by simp only [hj, if_true, hall _ j hj hj])
    rw [he]
    exact hQ _ _ hq
  intro fuel
  induction fuel with
  | zero =>
    intro listed a w x hsz hw hL hx hcl hf
    have hr : Region.ready .any ops listed = [] := by
      rw [List.eq_nil_iff_forall_not_mem]
      intro i hi
      obtain ⟨h1, o, ho, _⟩ := mem_ready.1 hi
      have : i ∈ (List.range ops.size).filter fun j => !listed.getD j true := List.mem_filter.2 ⟨List.mem_range.2 (hlt ho), by rw [h1]; rfl⟩
      have hz : ((List.range ops.size).filter fun j => !listed.getD j true) = [] := List.eq_nil_of_length_eq_zero (by unfold unl at hf; omega)
      rw [hz] at this
      cases this
    exact ⟨hr, hend listed a w x hsz hw hL hx hr⟩
  | succ fuel ih =>
    intro listed a w x hsz hw hL hx hcl hf
    refine ⟨fun hr => hend listed a w x hsz hw hL hx hr, fun i hi => ?_⟩
    obtain ⟨hi1, o, ho, hdeps⟩ := mem_ready.1 hi
    have hin := hlt ho
    have hi2 := getD_of hi1
    have eV : vAt Vs i = Vs[i]'(by omega) := by simp [vAt, List.getD, List.getElem?_eq_getElem (show i < Vs.length by omega)]
    obtain ⟨y, w', hb, hyx, hy⟩ := exists_prefix hg hS hC hlen h0 hw (L := fun j => listed.getD j false) hx i (by omega)
    have hat := wpGrow_at hlen h0 y i (by omega) fun j hj => ⟨w', hC w w' hw hb, hy j hj⟩
    have hk1 : i < ops.toList.length := by rw [Array.length_toList]; omega
    have hk2 : i < Vs.length := by omega
    rw [List.drop_eq_getElem_cons (l := ops.toList) hk1, List.drop_eq_getElem_cons (l := Vs) hk2] at hat
    have eo : ops.toList[i]'(by simpa using hin) = o := by
      have := Array.getElem?_eq_getElem hin
      rw [ho] at this
      simpa using (Option.some.inj this).symm
    rw [eo, ← eV] at hat
    have hlex := lexA_laid hg a0 y i (by omega)
    have hag : ∀ t ∈ o.looksAt ops, a.tmps[t]? = (lexA ops a0 y i).tmps[t]? := by
      intro t ht
      by_cases hj : ∃ j, j < ops.size ∧ dstOf ops j = some t
      · obtain ⟨j, hjn, hjd⟩ := hj
        have only : ∀ j', j' < ops.size → dstOf ops j' = some t → j' = j := fun j' h1 h2 => hs2 j' j t h1 hjn h2 hjd
        have hother : (listed.getD j false = false) → i ≤ j → a.tmps[t]? = (lexA ops a0 y i).tmps[t]? := fun h1 h2 => by
          rw [hL.off t fun j' hj' hd' => by rw [only j' hj' hd', h1]; rfl, hlex.off t fun j' hj' hd' => by
            rw [only j' hj' hd']
            have : ¬ j < i := by omega
            simp [this]]
        rcases hs3 i j o t ho hjn hjd ht with h | h | h
        · obtain ⟨e, he, rfl, hbd⟩ := (waits_iff ho).1 h
          have hl := hdeps e he hbd
          have hji := hs1 i o ho e he hbd
          rw [hL.put e.on t (x e.on) hjn hjd (by rw [hl]; rfl), hlex.put e.on t (y e.on) hjn hjd (by simp [hji]), hyx e.on hl]
        · obtain ⟨e, he, rfl, hbd⟩ := (waits_iff (Array.getElem?_eq_getElem hjn)).1 h
          have hlt2 := hs1 j _ (Array.getElem?_eq_getElem hjn) e he hbd
          refine hother ?_ (by omega)
          cases hlj : listed.getD j false with
          | false => rfl
          | true =>
            have := hcl j _ (Array.getElem?_eq_getElem hjn) hlj e he hbd
            rw [hi2] at this
            cases this
        · subst h
          exact hother hi2 (Nat.le_refl _)
      · rw [hL.off t fun j hjn hjd => absurd ⟨j, hjn, hjd⟩ hj, hlex.off t fun j hjn hjd => absurd ⟨j, hjn, hjd⟩ hj]
    obtain ⟨hex, hwant⟩ := exec_agree (ops := ops) (hs4 i o · · ho) hag
    have hnext : ∀ v w2, C w2 → Below w.heap.size w w2 → vAt Vs i v w2 → wpAny P .any ops Q' fuel (listed.setIfInBounds i true) (a.put o.dst v) w2 := by
      intro v w2 hw2 hb2 hv
      have hset : ∀ j, (listed.setIfInBounds i true).getD j false = if j = i then true else listed.getD j false := fun j => by
        by_cases hji : j = i
        · subst hji
          have : j < listed.size := by omega
          simp [Array.getD, this]
        · rw [getD_set_ne false (fun e => hji e.symm)]
          simp [hji]
      refine ih _ _ _ (fun j => if j = i then v else x j) (by simpa using hsz) hw2 ?_ ?_ ?_ ?_
      · refine (hL.next hg ho (by rw [hi2]; rfl) v).congr fun j hj => ?_
        rw [hset]
        by_cases hji : j = i <;> simp [hji]
      · intro j hj hlj
        rw [hset] at hlj
        by_cases hji : j = i
        · subst hji; simpa using hv
        · simp only [hji, if_false] at hlj ⊢
          have e : vAt Vs j = Vs[j]'(by omega) := by simp [vAt, List.getD, List.getElem?_eq_getElem (show j < Vs.length by omega)]
          have := hx j hj hlj
          rw [e] at this ⊢
          exact hS _ (List.getElem_mem _) _ _ _ hb2 this
      · intro k ok hok hlk e he hbd
        rw [hset] at hlk ⊢
        by_cases hki : k = i
        · subst hki
          obtain rfl : ok = o := by rw [ho] at hok; exact (Option.some.inj hok).symm
          have := hdeps e he hbd
          by_cases h' : e.on = k <;> simp [h', this]
        · simp only [hki, if_false] at hlk
          have := hcl k ok hok hlk e he hbd
          by_cases h' : e.on = i <;> simp [h', this]
      · have : unl ops.size (listed.setIfInBounds i true) < unl ops.size listed := by
          refine len_filter_lt (List.range ops.size) (fun j _ hq => ?_) i (List.mem_range.2 hin) (by rw [hi1]; rfl) ?_
          · by_cases hji : j = i
            · subst hji; rw [hi1]; rfl
            · rwa [getD_set_ne true (fun e => hji e.symm)] at hq
          · have : i < listed.size := by omega
            simp [Array.getD, this]
        omega
    unfold wpOp
    simp only [ho]
    rw [hwant]
    have h1 := hat.1
    split
    · rename_i hwt
      rw [if_pos hwt] at h1
      refine .inl (wp_of_grows (V := vAt Vs i) ?_ fun v w2 hb2 hv => hnext v w2 (hC _ _ hw hb2) hb2 hv)
      unfold grows
      rw [hex]
      exact h1 w hw fun e he hbd x' W hxW => by
        obtain ⟨hlt2, rfl, rfl⟩ := envAt_get hxW
        have hl := hdeps e he hbd
        rw [hyx _ hl]
        exact hx _ (by omega) hl
    · rename_i hwt
      rw [if_neg hwt] at h1
      exact hnext undef w hw (Below.refl _ _) (h1 w hw)

/-- **ONE WALK IN THE ORDER OF THE TEXT SERVES EVERY ORDER**, where memory only grows. -/
theorem wp_region_grow {id : Nat} {Q' : Exit → Act → World → Prop} {w0 : World} (l : List Oper) (hm : P.follows .mixedOrders = true) (hg : growB l.toArray = true) (Vs : List VP) (hS : ∀ V ∈ Vs, Stays V) (hlen : Vs.length = l.length)
    (h0 : wpGrow P l.toArray (fun w => Below w0.heap.size w0 w) (fun a w => Q' .normal a w) l Vs [] a0) : (Code.region id l.toArray true).wp P Q' a0 w0 := by
  refine wp_region_any hm (wpGrow_any (C := fun w => Below w0.heap.size w0 w) (Q := fun a w => Q' .normal a w) hg hS (fun w w' h k => grow_trans h k) (by simpa using hlen) (by simpa using h0) (fun a w h => h) _ _ _ _ (fun _ => undef) (by simp) ?_ ?_ ?_ ?_ ?_)
  · exact ⟨rfl, rfl, rfl, Nat.le_refl _, fun _ _ => rfl⟩
  · refine (Laid.start a0).congr fun j hj => ?_
    have : (Array.replicate l.toArray.size false).getD j false = false := by unfold Array.getD; split <;> simp
    rw [this]
    rfl
  · intro j hj h
    have : (Array.replicate l.toArray.size false).getD j false = false := by unfold Array.getD; split <;> simp
    rw [this] at h
    cases h
  · intro i o ho h
    have : (Array.replicate l.toArray.size false).getD i false = false := by unfold Array.getD; split <;> simp
    rw [this] at h
    cases h
  · unfold unl
    exact Nat.le_trans (List.length_filter_le _ _) (by simp)

/-! ### The walk, step by step -/
def AllStay : List VP → Prop
  | [] => True
  | V :: Vs => Stays V ∧ AllStay Vs
theorem allStay : ∀ {Vs : List VP}, AllStay Vs → ∀ V ∈ Vs, Stays V
  | V :: Vs, h, W, hW => by
    rcases List.mem_cons.1 hW with rfl | hW
    · exact h.1
    · exact allStay h.2 W hW

theorem wp_region_grow_lit {id : Nat} {Q' : Exit → Act → World → Prop} {w0 : World} {l : List Oper} {a0 : Act} (hm : P.follows .mixedOrders = true) (hg : growB l.toArray = true)
    (h : ∃ Vs, wpGrow P l.toArray (fun w => Below w0.heap.size w0 w) (fun a w => Q' .normal a w) l Vs [] a0 ∧ AllStay Vs ∧ Vs.length = l.length) : (Code.region id l.toArray true).wp P Q' a0 w0 := by
  obtain ⟨Vs, h0, hS, hlen⟩ := h
  exact wp_region_grow l hm hg Vs (allStay hS) hlen h0

variable {C : World → Prop} {Q : Act → World → Prop} {a : Act} {o : Oper} {rest : List Oper} {Vs : List VP} {env : List (Value × VP)}

theorem wpGrow_is {c : Value} (hw : Region.wanted o (yielded ops a.tmps) = true)
    (h1 : ∀ w, C w → (∀ e ∈ o.after, Region.binds .any e = true → ∀ (x : Value) (W : VP), env[e.on]? = some (x, W) → W x w) → grows P o a w (Is c))
    (h2 : ∀ K : Act → Prop, (∀ a', wpGrow P ops C Q rest Vs (env ++ [(c, Is c)]) a' → K a') → K (a.put o.dst c)) : wpGrow P ops C Q (o :: rest) (Is c :: Vs) env a := by
  refine ⟨by rw [if_pos hw]; exact h1, fun x ⟨w, _, hx⟩ => ?_⟩
  obtain rfl : x = c := hx
  exact h2 _ fun _ h => h
theorem wpGrow_rel {V : VP} (hw : Region.wanted o (yielded ops a.tmps) = true)
    (h1 : ∀ w, C w → (∀ e ∈ o.after, Region.binds .any e = true → ∀ (x : Value) (W : VP), env[e.on]? = some (x, W) → W x w) → grows P o a w V)
    (h2 : ∀ x, (∃ w, C w ∧ V x w) → ∀ K : Act → Prop, (∀ a', wpGrow P ops C Q rest Vs (env ++ [(x, V)]) a' → K a') → K (a.put o.dst x)) : wpGrow P ops C Q (o :: rest) (V :: Vs) env a :=
  ⟨by rw [if_pos hw]; exact h1, fun x hx => h2 x hx _ fun _ h => h⟩
theorem wpGrow_skip (hw : Region.wanted o (yielded ops a.tmps) = false) (h2 : ∀ K : Act → Prop, (∀ a', wpGrow P ops C Q rest Vs (env ++ [(undef, Is undef)]) a' → K a') → K (a.put o.dst undef)) : wpGrow P ops C Q (o :: rest) (Is undef :: Vs) env a := by
  refine ⟨by rw [if_neg (by rw [hw]; simp)]; exact fun _ _ => rfl, fun x ⟨w, _, hx⟩ => ?_⟩
  obtain rfl : x = undef := hx
  exact h2 _ fun _ h => h
theorem wpGrow_end (h : ∀ w, C w → (∀ (j : Nat) (x : Value) (W : VP), env[j]? = some (x, W) → W x w) → Q a w) : wpGrow P ops C Q [] [] env a := h

theorem grows_value (w : World) (v : Value) : growsUpon P w (Is v) (.ok (.value v) w) := ⟨Below.refl _ _, rfl⟩
theorem grows_call {f : FuncId} {args : Array Value} {w : World} {v : Value} (h : Calls P f args w fun e w' => e = .returned v ∧ Below w.heap.size w w') : growsUpon P w (Is v) (.ok (.enter f args) w) :=
  ⟨Below.refl _ _, h.mono fun e w' ⟨he, hb⟩ => ⟨v, he, hb, rfl⟩⟩
theorem grows_same {f : FuncId} {args : Array Value} {w : World} {v : Value} (h : Calls P f args w fun e w' => e = .returned v ∧ w = w') : growsUpon P w (Is v) (.ok (.enter f args) w) :=
  grows_call (h.mono fun _ _ ⟨he, hw⟩ => ⟨he, hw ▸ Below.refl _ _⟩)
theorem grows_drawn {f : FuncId} {args : Array Value} {w : World} {v : Value} (h : Calls P f args w fun e w' => e = .returned v ∧ Drawn w w') : growsUpon P w (Is v) (.ok (.enter f args) w) :=
  grows_call (h.mono fun _ _ ⟨he, hw⟩ => ⟨he, hw.below _⟩)

end
end Go.Proofs.YtildohndbeagaaaGreatDoor

namespace Go.Proofs.YtildohndbeagaaaGreatDoor
open Go Go.RowKit
set_option linter.unusedVariables false

/-- A slice that reads as the bytes l. -/
def VBs (l : List UInt8) : VP := fun v w => Bs (fun _ => True) w v l
theorem Bs.later {S : Nat → Prop} {w w' : World} {v : Value} {l : List UInt8} (h : Bs S w v l) (hb : Below w.heap.size w w') : Bs S w' v l := by
  obtain ⟨A, c, rfl, h3, h4, h5, h6⟩ := h.at
  refine Bs.mk_ h3 h4 h5 fun hn => ?_
  obtain ⟨b, o, hA, hS, hc⟩ := h6 hn
  exact ⟨b, o, hA, hS, fun j hj => cell_later hb (hc j hj)⟩
theorem Stays.bs (l : List UInt8) : Stays (VBs l) := fun _ _ _ hb h => Bs.later h hb
theorem Bs.any {S : Nat → Prop} {w : World} {v : Value} {l : List UInt8} (h : Bs S w v l) : Bs (fun _ => True) w v l := Sl.more h fun _ _ => trivial

end Go.Proofs.YtildohndbeagaaaGreatDoor

namespace Go.Proofs.YtildohndbeagaaaGreatDoor
open Go Go.RowKit
set_option linter.unusedVariables false

/-- What kind of block it is: cells of a type, or a map. -/
def kindAt (w : World) (b : Nat) : Option (Option TypeId) := match w.heap[b]? with
  | some (.cells _ t _) => some (some t)
  | some (.map _ _) => some none
  | _ => none
theorem kind_blk {w : World} {g : Nat} {t : TypeId} {cs : Array Value} (h : Blk w g t cs) : kindAt w g = some (some t) := by unfold Blk at h; unfold kindAt; rw [h]
theorem kind_own {w : World} {base : Nat} {e : TypeId} {size n : Nat} {v : Value} {xs : List Value} (h : w.ownsRow base e size v n xs) {b : Nat} (hb : v.ownBlock = some b) : kindAt w b = some (some e) := by
  rcases h.2 with ⟨rfl, _⟩ | ⟨g, cap, cur, rfl, _, hh, _⟩
  · cases hb
  · simp only [Value.ownBlock, Option.some.injEq] at hb
    subst hb
    unfold kindAt
    rw [hh]

theorem kind_lt {w : World} {b : Nat} {t : Option TypeId} (h : kindAt w b = some t) : b < w.heap.size := by
  rcases Nat.lt_or_ge b w.heap.size with h1 | h1
  · exact h1
  · unfold kindAt at h
    rw [Array.getElem?_eq_none h1] at h
    cases h
theorem kind_new (w : World) (t : TypeId) (cs : Array Value) : kindAt (w.alloc (.cells cs t)) w.heap.size = some (some t) := kind_blk (Blk.new w t cs)
theorem kind_of {w w' : World} {b : Nat} {t : Option TypeId} (h : w'.heap[b]? = w.heap[b]?) (hk : kindAt w b = some t) : kindAt w' b = some t := by unfold kindAt at hk ⊢; rw [h]; exact hk
/-- The slice value v reads as the cells xs, n elements of size cells, in a block of kind e. -/
def KSl (e : TypeId) (size : Nat) (w : World) (v : Value) (n : Nat) (xs : List Value) : Prop := Sl (fun b => kindAt w b = some (some e)) w size v n xs
section
variable {e : TypeId} {size n : Nat} {w w' : World} {v : Value} {xs : List Value}
theorem KSl.nil : KSl e size w (.slice none 0 0) 0 [] := Sl.nil
theorem KSl.keep (h : KSl e size w v n xs) (hk : ∀ b, kindAt w b = some (some e) → w'.heap[b]? = w.heap[b]?) : KSl e size w' v n xs := by
  obtain ⟨h1, A, c, h2, h3, h4, h5, h6⟩ := h
  refine ⟨h1, A, c, h2, h3, h4, h5, fun hl => ?_⟩
  obtain ⟨b, o, hA, hs, hc⟩ := h6 hl
  have hb := hk b hs
  refine ⟨b, o, hA, kind_of hb hs, fun j u hu => ?_⟩
  rw [World.cell?_of_block (a := ⟨b, o + j, none⟩) hb]
  exact hc j u hu
theorem KSl.later (h : KSl e size w v n xs) (hb : Below w.heap.size w w') : KSl e size w' v n xs := h.keep fun b hk => hb.block b (kind_lt hk)
theorem KSl.drewN (h : KSl e size w v n xs) (k : Nat) : KSl e size (w.drewN k) v n xs := h.later (below_drewN (Below.refl _ _) _)
/-- Only a block of another kind turned. -/
theorem KSl.other (h : KSl e size w v n xs) {z : Nat} (hz : kindAt w z ≠ some (some e)) (hg : w.grownBy w' (some z)) : KSl e size w' v n xs :=
  h.keep fun b hb => hg.block b (kind_lt hb) (fun e => by injection e with e; subst e; exact hz hb)
theorem KSl.setCell (h : KSl e size w v n xs) {p : Addr} (hp : kindAt w p.block ≠ some (some e)) (u : Value) : KSl e size (w.setCell p u) v n xs :=
  h.keep fun b hb => Below.heap_setCell w p u b (fun e => by subst e; exact hp hb)
theorem KSl.of_own {base : Nat} (hsz : 0 < size) (h : w.ownsRow base e size v n xs) : KSl e size w v n xs := by
  have hs := Sl.of_own hsz h
  rcases h.2 with ⟨rfl, hn⟩ | ⟨g, cap, cur, rfl, hB, hh, _⟩
  · obtain ⟨h1, A, c, h2, h3, h4, h5, h6⟩ := hs
    exact ⟨h1, A, c, h2, h3, h4, h5, fun hl => by omega⟩
  · obtain ⟨h1, A, c, h2, h3, h4, h5, h6⟩ := hs
    refine ⟨h1, A, c, h2, h3, h4, h5, fun hl => ?_⟩
    obtain ⟨b, o, hA, _, hc⟩ := h6 hl
    injection h2 with hA2
    rw [hA] at hA2
    injection hA2 with hA2
    injection hA2 with hb
    subst hb
    exact ⟨g, o, hA, kind_blk (t := e) (cs := cur) hh, hc⟩
theorem KSl.lt (h : KSl e size w v n xs) : Sl (fun b => b < w.heap.size) w size v n xs := Sl.more h fun _ hk => kind_lt hk
theorem KSl.new (w : World) (e : TypeId) (size : Nat) (hsz : 0 < size) (cs : Array Value) (n : Nat) (hn : 0 < n) (hm : n ≤ maxLen) (hc : cs.size = n * size) {g : Nat} (hg : g = w.heap.size) :
    KSl e size (w.alloc (.cells cs e)) (.slice (some ⟨g, 0, none⟩) n n) n cs.toList := by
  subst hg
  refine ⟨by simpa using hc, _, n, rfl, Nat.le_refl _, hm, (fun h => by cases h), fun _ => ⟨_, 0, rfl, kind_new _ _ _, fun j u hu => ?_⟩⟩
  rw [World.cell?_alloc_new, Nat.zero_add]
  simpa using hu
end
end Go.Proofs.YtildohndbeagaaaGreatDoor

namespace Go.Proofs.YtildohndbeagaaaGreatDoor
open Go Go.RowKit
set_option linter.unusedVariables false

theorem intTy : Tryz.prog.underlying 3 = some (.int .i64) := Tryz.underlying3
theorem secTy : Tryz.prog.underlying 72 = some (.map 3 68) := Tryz.underlying72
theorem nilBytes (w : World) : (zeroValue 68).run Tryz.prog w = .ok (.slice none 0 0) w := by kernel_rfl

theorem kind_map {P : Program} {k : TypeId} {w : World} {b n : Nat} {f : Int → Option Value} (h : MpV P k w b f n) : kindAt w b = some none := by
  obtain ⟨es, c, hb⟩ := h.isMap
  unfold kindAt
  rw [hb]
theorem kind_ub {w : World} {B b : Nat} (h : UbS w B b) : kindAt w b = some (some 5) := by
  obtain ⟨_, cs, fz, hh⟩ := h
  unfold kindAt
  rw [hh]

/-- Bytes stay where only a block of another kind turned. -/
theorem Ub.other {w w' : World} {B : Nat} {v : Value} {l : List UInt8} (h : Ub w B v l) {z : Nat} (hz : kindAt w z ≠ some (some 5)) (hg : w.grownBy w' (some z)) : Ub w' B v l :=
  h.keep fun b hb => hg.block b (by obtain ⟨_, cs, fz, hh⟩ := hb; exact lt_of_block hh) (fun e => by
    injection e with e
    subst e
    exact hz (kind_ub hb))
theorem MpV.other {P : Program} {k : TypeId} {w w' : World} {b n : Nat} {f : Int → Option Value} (h : MpV P k w b f n) {z : Nat} (hz : b ≠ z) (hg : w.grownBy w' (some z)) : MpV P k w' b f n :=
  h.at (hg.block b h.lt (fun e => hz (by injection e)))
theorem Ow.other {e : TypeId} {w w' : World} {B : Nat} {v : Value} {xs : List Value} (h : Ow e w B v xs) {z : Nat} (hz : v.ownBlock ≠ some z) (hg : w.grownBy w' (some z)) : Ow e w' B v xs := by
  obtain ⟨h1, h2⟩ := h
  refine ⟨h1, ?_⟩
  rcases h2 with h2 | ⟨g, cap, cur, hv, hB, hh, r⟩
  · exact .inl h2
  · refine .inr ⟨g, cap, cur, hv, hB, ?_, r⟩
    exact (hg.block g (lt_of_block hh) (fun e => hz (by rw [hv]; exact e))).trans hh

/-! ### Sectors in a map -/
def SecV (w : World) (v : Option Value) (l : Option (List UInt8)) : Prop := match v, l with
  | none, none => True
  | some v, some l => Ub w 0 v l
  | _, _ => False
def Secs (w : World) (b : Nat) (f : SF) (n : Nat) : Prop := ∃ m, MpV Tryz.prog 3 w b m n ∧ ∀ a, InI a → SecV w (m a) (f a)
theorem SecV.keep {w w' : World} {v : Option Value} {l : Option (List UInt8)} (h : SecV w v l) (hk : ∀ v l, Ub w 0 v l → Ub w' 0 v l) : SecV w' v l := by
  unfold SecV at h ⊢
  cases v <;> cases l <;> simp_all
theorem SecV.some_iff {w : World} {v : Option Value} {l : Option (List UInt8)} (h : SecV w v l) : v.isSome = l.isSome := by
  unfold SecV at h
  cases v <;> cases l <;> simp_all
theorem Secs.later {w w' : World} {b n : Nat} {f : SF} (h : Secs w b f n) (hb : Below w.heap.size w w') : Secs w' b f n := by
  obtain ⟨m, h1, h2⟩ := h
  exact ⟨m, h1.later hb, fun a ha => (h2 a ha).keep fun _ _ h => h.later hb⟩
theorem Secs.other {w w' : World} {b n : Nat} {f : SF} (h : Secs w b f n) {z : Nat} (hz : b ≠ z) (hz2 : kindAt w z ≠ some (some 5)) (hg : w.grownBy w' (some z)) : Secs w' b f n := by
  obtain ⟨m, h1, h2⟩ := h
  exact ⟨m, h1.other hz hg, fun a ha => (h2 a ha).keep fun _ _ h => h.other hz2 hg⟩
theorem Secs.kind {w : World} {b n : Nat} {f : SF} (h : Secs w b f n) : kindAt w b = some none := by
  obtain ⟨m, h1, _⟩ := h
  exact kind_map h1
theorem Secs.lt {w : World} {b n : Nat} {f : SF} (h : Secs w b f n) : b < w.heap.size := by
  obtain ⟨m, h1, _⟩ := h
  exact h1.lt
/-- A new map of sectors. -/
theorem Secs.made (w : World) : Secs (w.alloc (.map #[] 0)) w.heap.size (fun _ => none) 0 := ⟨_, MpV.made _ _ w, fun _ _ => trivial⟩
end Go.Proofs.YtildohndbeagaaaGreatDoor
