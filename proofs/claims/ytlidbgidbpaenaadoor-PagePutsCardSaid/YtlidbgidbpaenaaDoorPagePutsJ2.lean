/- What the proof of PagePuts needs, part 2. -/
import Derived.Test.YtlidbgidbpaenaaDoorPagePutsJ1

namespace Go.Proofs.YtlidbgidbpaenaaDoor
open Go Go.RowKit
set_option linter.unusedVariables false

/-- A register's value. -/
abbrev rv (r : Rg) : Value := .int .u32 (r.toNat : Int)
theorem rg_lt (r : Rg) : r.toNat < 4294967296 := r.isLt

theorem rg_dbl (r : Rg) : ((r.toNat : Int) * (2 : Int) % (4294967296 : Int)) = ((r <<< 1).toNat : Int) := by
  rw [BitVec.toNat_shiftLeft]
  simp [Nat.shiftLeft_eq]
theorem rg_top (r : Rg) : ((r.toNat : Int) / 2147483648 == 1) = r.msb := by
  have := rg_lt r
  rw [BitVec.msb_eq_decide, Bool.eq_iff_iff, beq_iff_eq, decide_eq_true_eq]
  omega
theorem rg_xor (a c : Rg) : bits .xor .u32 (a.toNat : Int) (c.toNat : Int) = ((a ^^^ c).toNat : Int) := by
  rw [u32_xor_nat _ _ (rg_lt a) (rg_lt c), BitVec.toNat_xor]
theorem rg_poly (r : Rg) : bits .xor .u32 (r.toNat : Int) 79764919 = ((r ^^^ poly).toNat : Int) := rg_xor r poly

set_option maxHeartbeats 400000 in
theorem step_any (r : Rg) (b : Bool) (w : World) :
    Calls Tryd.prog 84 #[rv r, .bool b] w fun e w' => e = .returned (rv (stepR r b)) ∧ w = w' := by
  have H : Hid (stepR r b = (r <<< 1) ^^^ (if (r.msb ^^ b) then poly else 0#32)) := rfl
  have ht := rg_top r
  have hr := rg_lt r
  cases hm : r.msb <;> cases b
  all_goals
    rw [hm] at ht H
    go_enter Tryd.func84, Tryd.ntmps84
    go_wp2_with fail
    go_ret
    rw [H.out]
    refine ⟨?_, rfl⟩
    have hd := rg_dbl r
    rw [hd]
    first | (rw [rg_poly]; rfl) | (simp; done)

theorem rg_shl28 (i : Nat) (h : i < 16) : ((i : Int) * (268435456 : Int)) = ((BitVec.ofNat 32 (i <<< 28)).toNat : Int) := by
  rw [BitVec.toNat_ofNat, Nat.shiftLeft_eq]
  omega
theorem feed_zeros_succ (r : Rg) (k : Nat) : feed r (zeros (k + 1)) = stepR (feed r (zeros k)) false := by
  rw [zeros, List.replicate_succ', feed_append]; rfl

set_option maxHeartbeats 400000 in
theorem tset_any (g i : Nat) (cs : Array Value) (w : World) (hi : i < 16) (hcs : cs.size = 16) (hb : Blk w g 117 cs) :
    Calls Tryd.prog 83 #[.int .i64 i, .pointer (some ⟨g, 0, none⟩)] w fun e w' => e = .returned (.tuple #[]) ∧ w' = w.setCell ⟨g, i, none⟩ (rv (tab i)) := by
  go_enter Tryd.func83, Tryd.ntmps83
  go_wp2_with fail
  go_loop [3, 7] (fun rvv kv => ∃ k : Nat, k ≤ 4 ∧ kv = .int .i64 k ∧ rvv = rv (feed (BitVec.ofNat 32 (i <<< 28)) (zeros k))) (fun _ kv => 4 - (intOf kv).toNat)
  case atStart => exact ⟨0, by omega, rfl, by rw [rg_shl28 i hi]; rfl⟩
  case round =>
    obtain ⟨k, hk, rfl, rfl⟩ := hrel
    by_cases hlt : k < 4
    · have H := Lib.hid (feed_zeros_succ (BitVec.ofNat 32 (i <<< 28)) k)
      go_wp2_with (go_at_call 84; refine (step_any _ _ _).mono ?_; rintro e w' ⟨rfl, rfl⟩)
      go_round
      case rel => exact ⟨k + 1, by omega, by go_num, by rw [H.out]⟩
      case measure => simp [intOf]; omega
    · obtain rfl : k = 4 := by omega
      have hc := hb.cell i
      have hf := hb.free i
      rw [Array.getElem?_eq_getElem (by omega)] at hc
      go_wp2_with fail
      go_end0
      exact ⟨rfl, rfl⟩

/-- The table, i entries laid. -/
def tabC (i : Nat) : Array Value := (Array.range 16).map fun j => if j < i then rv (tab j) else .int .u32 0
theorem tabC_size (i : Nat) : (tabC i).size = 16 := by simp [tabC]
theorem tabC_set (i : Nat) (h : i < 16) : (tabC i).setIfInBounds i (rv (tab i)) = tabC (i + 1) := by
  apply Array.ext
  · simp [tabC]
  · intro j h1 h2
    have hj : j < 16 := by simpa [tabC] using h2
    rw [Array.getElem_setIfInBounds (by simpa using h1)]
    by_cases e : i = j
    · subst e; simp [tabC]
    · rw [if_neg e]
      simp only [tabC, Array.getElem_map, Array.getElem_range]
      by_cases hl : j < i
      · rw [if_pos hl, if_pos (by omega)]
      · rw [if_neg hl, if_neg (by omega)]
theorem tabC_at (j : Nat) (h : j < 16) : (tabC 16)[j]? = some (rv (tab j)) := by
  rw [Array.getElem?_eq_getElem (by rw [tabC_size]; exact h)]
  simp [tabC, h]
theorem tabC_zero : tabC 0 = #[.int .u32 0, .int .u32 0, .int .u32 0, .int .u32 0, .int .u32 0, .int .u32 0, .int .u32 0, .int .u32 0, .int .u32 0, .int .u32 0, .int .u32 0, .int .u32 0, .int .u32 0, .int .u32 0, .int .u32 0, .int .u32 0] := by
  simp [tabC, ← Array.toList_inj, List.range_succ]
theorem tabC_one (i : Nat) : (tabC i).all (·.oneCell') = true := by
  rw [Array.all_eq_true]
  intro j h
  simp only [tabC, Array.getElem_map, Array.getElem_range]
  split <;> rfl
/-- The table as a value. -/
def tabV : Value := .agg (tabC 16)
theorem infoTab (i : Nat) : (Tryd.prog.info? 117).map (·.size) = some (tabC i).size := by rw [tabC_size]; kernel_rfl
theorem Blk.setRow {w : World} {g : Nat} {t : TypeId} {cs : Array Value} (h : Blk w g t cs) (ds : Array Value) : Blk (w.setRow g ds) g t ds := by
  unfold Blk at h ⊢
  simp [World.setRow, Array.getElem?_modify, h]
theorem below_setRow {B g : Nat} {w w' : World} (h : Below B w w') (hg : B ≤ g) (ds : Array Value) : Below B w (w'.setRow g ds) := by
  refine h.trans ⟨rfl, rfl, rfl, by simp, fun k hk => ?_⟩
  simp only [World.setRow, Array.getElem?_modify]
  rw [if_neg (by omega)]

set_option maxHeartbeats 400000 in
set_option maxRecDepth 100000 in
theorem table_any (w : World) :
    Calls Tryd.prog 80 #[] w fun e w' => e = .returned tabV ∧ Below w.heap.size w w' := by
  have hmf := run_makeFunc Tryd.prog
  go_enter Tryd.func80, Tryd.ntmps80
  go_wp2_with fail
  rw [← tabC_zero]
  have R0 : Blk ((w.alloc (.cells (tabC 0) 117)).alloc (.cells (tabC 0) 117)) (w.heap.size + 1) 117 (tabC 0) ∧
      Blk ((w.alloc (.cells (tabC 0) 117)).alloc (.cells (tabC 0) 117)) w.heap.size 117 (tabC 0) ∧
      Below w.heap.size w ((w.alloc (.cells (tabC 0) 117)).alloc (.cells (tabC 0) 117)) := by
    refine ⟨?_, (Blk.new w _ _).alloc _, ((Below.refl _ _).alloc (Nat.le_refl _) _).alloc (by simp) _⟩
    have := Blk.new (w.alloc (.cells (tabC 0) 117)) 117 (tabC 0)
    simpa using this
  generalize ((w.alloc (.cells (tabC 0) 117)).alloc (.cells (tabC 0) 117)) = w2 at *
  go_loopw [5] (fun iv wr => ∃ i : Nat, iv = .int .i64 (i : Int) ∧ i ≤ 16 ∧ Blk wr (w.heap.size + 1) 117 (tabC i) ∧ Blk wr w.heap.size 117 (tabC 0) ∧ Below w.heap.size w wr) (fun iv _ => 16 - (intOf iv).toNat)
  case atStart => exact ⟨0, rfl, by omega, R0⟩
  case round =>
    obtain ⟨i, rfl, hi, hb1, hb0, hbl⟩ := hrel
    clear R0
    by_cases hlt : i < 16
    · go_wp2_with fail
      refine (tset_any (w.heap.size + 1) i (tabC i) wr hlt (tabC_size _) hb1).mono ?_
      rintro e w3 ⟨rfl, rfl⟩
      go_wp2
      go_roundw
      case rel => exact ⟨i + 1, by go_num, by omega, by rw [← tabC_set i hlt]; exact hb1.put i _, hb0.far (by simp) _, hbl.setCell (by simp) _⟩
      case measure => simp [intOf]; omega
    · obtain rfl : i = 16 := by omega
      have hu := Tryd.underlying117
      go_wp2_with (first | (refine wpList_load_row rfl _ (.tmp 1) rfl (w.heap.size + 1) rfl _ (tabC 16) _ _ hb1 hu rfl (infoTab 16) ?_) | (refine wpList_store_row rfl _ (.tmp 0) (.tmp 12) rfl w.heap.size (tabC 16) rfl rfl _ (tabC 0) hb0 (infoTab 16) (by simp [tabC_size]) (tabC_one 16) ?_))
      exact bodyPost_ret (v := tabV) (results_cell_row rfl _ _ w.heap.size _ (tabC 16) _ _ rfl (hb0.setRow _) hu rfl (infoTab 16)) rfl ⟨rfl, below_setRow hbl (Nat.le_refl _) _⟩

theorem rg_not (r : Rg) : bits .xor .u32 IntKind.u32.max (r.toNat : Int) = ((~~~r).toNat : Int) := by
  rw [show IntKind.u32.max = (((BitVec.allOnes 32 : Rg).toNat : Nat) : Int) from rfl, rg_xor]
  congr 2
theorem and15 (x : Nat) (hx : x < 256) : bits .and .u8 (x : Int) 15 = ((x % 16 : Nat) : Int) := by
  have h := u8_and_nat x 15 hx (by omega)
  rw [show x &&& 15 = x % 16 from Nat.and_two_pow_sub_one_eq_mod x 4] at h
  exact h
theorem nib_lt (r : Rg) (h : Nat) (hh : h < 16) : (r >>> 28).toNat ^^^ h < 16 := by
  have hk : (r >>> 28).toNat < 16 := by
    have := r.isLt
    rw [BitVec.toNat_ushiftRight, Nat.shiftRight_eq_div_pow]
    exact Nat.div_lt_of_lt_mul this
  exact Nat.xor_lt_two_pow (n := 4) hk hh
theorem nib_xor (r : Rg) (h : Nat) (hh : h < 16) : bits .xor .u32 ((r.toNat : Int) / (268435456 : Int)) (h : Int) = (((r >>> 28).toNat ^^^ h : Nat) : Int) := by
  have e : ((r.toNat : Int) / (268435456 : Int)) = (((r >>> 28).toNat : Nat) : Int) := by
    rw [BitVec.toNat_ushiftRight, Nat.shiftRight_eq_div_pow]
    omega
  have := rg_lt (r >>> 28)
  rw [e, u32_xor_nat _ _ this (by omega)]
theorem rg_shl4 (r : Rg) : ((r.toNat : Int) * (16 : Int) % (4294967296 : Int)) = ((r <<< 4).toNat : Int) := by
  rw [BitVec.toNat_shiftLeft]
  simp [Nat.shiftLeft_eq]

set_option maxHeartbeats 400000 in
set_option maxRecDepth 100000 in
theorem more_any (S : Nat → Prop) (v0 : Value) (v : Rg) (l : List UInt8) (w : World) (hl : l.length ≤ 1099511627776) (hr : Bs S w v0 l) :
    Calls Tryd.prog 75 #[rv v, v0] w fun e w' => e = .returned (rv (sumMore v l)) ∧ Below w.heap.size w w' := by
  have HR := Lib.hid ((Sl.lt hr (by omega)).more (fun _ h => h.2))
  obtain ⟨A, c, rfl, hlc, hcm, hA0, hA⟩ := hr.at
  clear hA hr hA0
  go_enter Tryd.func75, Tryd.ntmps75
  go_wp2_with fail
  refine (table_any w).mono ?_
  rintro e w1 ⟨rfl, hbl1⟩
  have hr1 := Sl.below HR.out hbl1 (fun _ h => h)
  have hs1 := hbl1.size
  unfold tabV
  go_wp2_with (refine wpList_store_row rfl _ (.tmp 5) (.tmp 9) rfl w1.heap.size (tabC 16) rfl rfl _ _ (Blk.new w1 _ _) (infoTab 16) (by simp [tabC_size]) (tabC_one 16) ?_)
  have B1 : Blk ((w1.alloc (.cells #[.int .u32 0, .int .u32 0, .int .u32 0, .int .u32 0, .int .u32 0, .int .u32 0, .int .u32 0, .int .u32 0, .int .u32 0, .int .u32 0, .int .u32 0, .int .u32 0, .int .u32 0, .int .u32 0, .int .u32 0, .int .u32 0] 117)).setRow w1.heap.size (tabC 16)) w1.heap.size 117 (tabC 16) := (Blk.new _ _ _).setRow _
  have hbl2 : Below w.heap.size w ((w1.alloc (.cells #[.int .u32 0, .int .u32 0, .int .u32 0, .int .u32 0, .int .u32 0, .int .u32 0, .int .u32 0, .int .u32 0, .int .u32 0, .int .u32 0, .int .u32 0, .int .u32 0, .int .u32 0, .int .u32 0, .int .u32 0, .int .u32 0] 117)).setRow w1.heap.size (tabC 16)) := below_setRow (hbl1.alloc hs1 _) hs1 _
  have hr2 : Bs (fun b => b < w.heap.size) _ _ l := Sl.below HR.out hbl2 (fun _ h => h)
  clear hr1 HR hbl1
  generalize ((w1.alloc _).setRow _ _) = w2 at *
  obtain ⟨_, _, hv, _, _, _, hA⟩ := hr2.at
  injection hv with e1 _ e2
  subst e1 e2
  have HA := Lib.hid hA
  clear hA hr2
  go_loop [6, 14] (fun rvv iv => ∃ (i : Nat) (r : Rg), iv = .int .i64 (i : Int) ∧ i ≤ l.length ∧ rvv = rv r ∧ Hid (r = moreR (~~~v) (l.take i))) (fun _ iv => l.length - (intOf iv).toNat)
  case atStart => exact ⟨0, ~~~v, rfl, by omega, by rw [rg_not], rfl⟩
  case round =>
    obtain ⟨i, r, rfl, hi, rfl, hrm⟩ := hrel
    by_cases hil : i < l.length
    · obtain ⟨b, o, rfl, _, hcell⟩ := HA.out (by omega)
      have hc := hcell i hil
      clear hcell HA
      have HS : Hid (byteR r l[i] = moreR (~~~v) (l.take (i + 1))) := by
        rw [Hid, List.take_succ_eq_append_getElem hil, moreR_snoc, hrm.out]
      have HQ := Lib.hid (byteR_eq r l[i])
      obtain ⟨x, hx⟩ : ∃ x, x = l[i].toNat := ⟨_, rfl⟩
      have hx256 : x < 256 := hx ▸ l[i].toNat_lt
      rw [← hx] at hc HQ
      have n1 := nib_xor r (x / 16) (by omega)
      have n1l := nib_lt r (x / 16) (by omega)
      generalize (r >>> 28).toNat ^^^ (x / 16) = k1 at *
      have c1 := (B1.cell k1).trans (tabC_at k1 n1l)
      have x1 := rg_xor (r <<< 4) (tab k1)
      rw [← rg_shl4] at x1
      generalize (r <<< 4) ^^^ tab k1 = r1 at *
      have n2 := nib_xor r1 (x % 16) (by omega)
      have n2l := nib_lt r1 (x % 16) (by omega)
      generalize (r1 >>> 28).toNat ^^^ (x % 16) = k2 at *
      have c2 := (B1.cell k2).trans (tabC_at k2 n2l)
      have x2 := rg_xor (r1 <<< 4) (tab k2)
      rw [← rg_shl4] at x2
      generalize (r1 <<< 4) ^^^ tab k2 = r2 at *
      have HR2 : Hid (r2 = moreR (~~~v) (l.take (i + 1))) := by rw [Hid, ← HS.out, HQ.out]
      have a15 := and15 x hx256
      rw [show ((x / 16 : Nat) : Int) = (x : Int) / (16 : Int) by omega] at n1
      rw [show ((x % 16 : Nat) : Int) = (x : Int) % (16 : Int) by omega] at n2 a15
      have l1 := rg_lt r
      have l2 := rg_lt r1
      have l3 := rg_lt r2
      clear hx HS HQ
      go_wp2_with fail
      go_round
      case rel => exact ⟨i + 1, r2, by go_num, by omega, rfl, HR2⟩
      case measure => simp [intOf]; omega
    · obtain rfl : i = l.length := by omega
      have HR2 := hrm.out
      rw [List.take_length] at HR2
      have HR3 := Lib.hid HR2
      clear HR2
      go_wp2_with fail
      go_ret
      refine ⟨?_, hbl2⟩
      rw [rg_not, HR3.out]
      rfl

set_option maxHeartbeats 400000 in
theorem of_any (S : Nat → Prop) (v0 : Value) (l : List UInt8) (w : World) (hl : l.length ≤ 1099511627776) (hr : Bs S w v0 l) :
    Calls Tryd.prog 62 #[v0] w fun e w' => e = .returned (rv (sumOf l)) ∧ Below w.heap.size w w' := by
  have HR := Lib.hid hr
  obtain ⟨A, c, rfl, hlc, hcm, hA0, hA⟩ := hr.at
  clear hA hr hA0
  go_enter Tryd.func62, Tryd.ntmps62
  go_wp2_with fail
  refine (more_any _ _ 0#32 l w hl HR.out).mono ?_
  rintro e w1 ⟨rfl, hbl1⟩
  go_wp2_with fail
  go_ret
  exact ⟨rfl, hbl1⟩

theorem sum4 (r : Rg) : (r.toNat : Nat) < 256 ^ 4 := r.isLt

set_option maxHeartbeats 400000 in
theorem seal_any (S : Nat → Prop) (v0 : Value) (l : List UInt8) (w : World) (hb : BitsOk w) (hl : l.length ≤ 1099511627776) (hr : Bs S w v0 l) :
    Calls Tryd.prog 37 #[v0] w fun e w' => ∃ A k c, e = .returned (.slice A k c) ∧ Ob 5 w' w.heap.size (.slice A k c) (l ++ beB (sumOf l).toNat 4) ∧ Below w.heap.size w w' := by
  have HR := Lib.hid ((Sl.lt hr (by omega)).more (fun _ h => h.2))
  have HB := Lib.hid hb
  obtain ⟨A, c, rfl, hlc, hcm, hA0, hA⟩ := hr.at
  have HR0 := Lib.hid hr
  clear hA hr hA0 hb
  have hs := rg_lt (sumOf l)
  go_enter Tryd.func37, Tryd.ntmps37
  go_wp2_with fail
  refine (of_any _ _ l w hl HR0.out).mono ?_
  rintro e w1 ⟨rfl, hbl1⟩
  have hr1 := Sl.below HR.out hbl1 (fun _ h => h)
  have HR1 := Lib.hid hr1
  clear hr1
  go_wp2_with fail
  refine (put_ok _ _ l (sumOf l).toNat 4 w1 (by omega) (by omega) (by unfold U64; omega) (fun _ => by omega) (HB.out.later hbl1) hl HR1.out).mono ?_
  rintro e w2 ⟨A2, k2, c2, rfl, hown, hbl2⟩
  go_wp2_with fail
  go_ret
  exact ⟨A2, k2, c2, rfl, hown.lower hbl1.size, hbl1.trans (hbl2.mono hbl1.size)⟩
end Go.Proofs.YtlidbgidbpaenaaDoor

namespace Go.Proofs.YtlidbgidbpaenaaDoor
open Go Go.RowKit
set_option linter.unusedVariables false


theorem xor_next (a b i : Nat) : (a ^^^ b) % 2 ^ (i + 1) = (a ^^^ b) % 2 ^ i + (if a / 2 ^ i % 2 = b / 2 ^ i % 2 then 0 else 2 ^ i) := by
  rw [Nat.pow_succ, Nat.mod_mul]
  congr 1
  have ea : a.testBit i = decide (a / 2 ^ i % 2 = 1) := Nat.testBit_eq_decide_div_mod_eq
  have eb : b.testBit i = decide (b / 2 ^ i % 2 = 1) := Nat.testBit_eq_decide_div_mod_eq
  have ex : (a ^^^ b).testBit i = decide ((a ^^^ b) / 2 ^ i % 2 = 1) := Nat.testBit_eq_decide_div_mod_eq
  rw [Nat.testBit_xor, ea, eb] at ex
  have h1 := Nat.mod_two_eq_zero_or_one (a / 2 ^ i)
  have h2 := Nat.mod_two_eq_zero_or_one (b / 2 ^ i)
  have h3 := Nat.mod_two_eq_zero_or_one ((a ^^^ b) / 2 ^ i)
  rcases h1 with h1 | h1 <;> rcases h2 with h2 | h2 <;> rcases h3 with h3 | h3 <;> rw [h1, h2, h3] at ex <;> rw [h1, h2, h3] <;> simp at ex ⊢

set_option maxHeartbeats 400000 in
theorem turned_any (a b : Nat) (w : World) (ha : a < 4294967296) (hb : b < 4294967296) :
    Calls Tryd.prog 81 #[.int .u64 (a : Int), .int .u64 (b : Int)] w fun e w' => e = .returned (.int .u64 ((a ^^^ b : Nat) : Int)) ∧ w = w' := by
  go_enter Tryd.func81, Tryd.ntmps81
  go_wp2_with fail
  go_loop [0, 1, 5, 6, 7] (fun av bv ov pv iv => ∃ A B O P i : Nat, av = .int .u64 (A : Int) ∧ bv = .int .u64 (B : Int) ∧ ov = .int .u64 (O : Int) ∧ pv = .int .u64 (P : Int) ∧ iv = .int .i64 (i : Int) ∧ A < 4294967296 ∧ B < 4294967296 ∧ O ≤ 4294967296 ∧ P ≤ 4294967296 ∧ i ≤ 32 ∧ Hid (A = a / 2 ^ i) ∧ Hid (B = b / 2 ^ i) ∧ Hid (O = (a ^^^ b) % 2 ^ i) ∧ Hid (P = 2 ^ i)) (fun _ _ _ _ iv => 32 - (intOf iv).toNat)
  case atStart => exact ⟨a, b, 0, 1, 0, rfl, rfl, rfl, rfl, rfl, ha, hb, by omega, by omega, by omega, by simp [Hid], by simp [Hid], by simp [Hid, Nat.mod_one], rfl⟩
  case round =>
    obtain ⟨A, B, O, P, i, rfl, rfl, rfl, rfl, rfl, hA, hB, hO, hP, hi, HA, HB, HO, HP⟩ := hrel
    by_cases hlt : i < 32
    · have hx := xor_next a b i
      have hle : (a ^^^ b) % 2 ^ (i + 1) < 2 ^ (i + 1) := Nat.mod_lt _ (Nat.pow_pos (by omega))
      have hpe : 2 ^ (i + 1) ≤ 2 ^ 32 := Nat.pow_le_pow_right (by omega) (by omega)
      rw [← HA.out, ← HB.out, ← HO.out, ← HP.out] at hx
      have hP2 : P * 2 ≤ 4294967296 := by rw [HP.out, ← Nat.pow_succ]; exact hpe
      have HA2 : Hid (A / 2 = a / 2 ^ (i + 1)) := by rw [HA.out, Nat.div_div_eq_div_mul, Nat.pow_succ]; rfl
      have HB2 : Hid (B / 2 = b / 2 ^ (i + 1)) := by rw [HB.out, Nat.div_div_eq_div_mul, Nat.pow_succ]; rfl
      have HP2 : Hid (2 * P = 2 ^ (i + 1)) := by rw [HP.out, Nat.pow_succ, Nat.mul_comm]; rfl
      have hO1 : (a ^^^ b) % 2 ^ (i + 1) ≤ 4294967296 := Nat.le_trans (Nat.le_of_lt hle) hpe
      clear hle hpe
      by_cases hab : A % 2 = B % 2
      · rw [if_pos hab] at hx
        rw [hx] at hO1
        have HX := Lib.hid hx
        have t1 : ((A : Int) % (2 : Int) == (B : Int) % (2 : Int)) = true := by simp; omega
        have t2 : ((A : Int) % (2 : Int) != (B : Int) % (2 : Int)) = false := by simp; omega
        clear hx hab
        go_wp2_with fail
        go_round
        case rel => exact ⟨A / 2, B / 2, O, 2 * P, i + 1, by go_num, by go_num, rfl, by go_num, by go_num, by omega, by omega, by omega, by omega, by omega, HA2, HB2, by rw [HX.out]; rfl, HP2⟩
        case measure => simp [intOf]; omega
      · rw [if_neg hab] at hx
        rw [hx] at hO1
        have HX := Lib.hid hx
        have t1 : ((A : Int) % (2 : Int) == (B : Int) % (2 : Int)) = false := by simp; omega
        have t2 : ((A : Int) % (2 : Int) != (B : Int) % (2 : Int)) = true := by simp; omega
        clear hx hab
        go_wp2_with fail
        go_round
        case rel => exact ⟨A / 2, B / 2, O + P, 2 * P, i + 1, by go_num, by go_num, by go_num, by go_num, by go_num, by omega, by omega, by omega, by omega, by omega, HA2, HB2, by rw [HX.out]; rfl, HP2⟩
        case measure => simp [intOf]; omega
    · obtain rfl : i = 32 := by omega
      have hx : a ^^^ b < 2 ^ 32 := Nat.xor_lt_two_pow ha hb
      have HX : Hid (O = a ^^^ b) := by rw [HO.out, Nat.mod_eq_of_lt hx]; rfl
      clear hx
      go_wp2_with fail
      go_ret
      rw [HX.out]
      exact ⟨rfl, rfl⟩

set_option maxHeartbeats 400000 in
theorem refStep_any (r : Rg) (b : Bool) (w : World) :
    Calls Tryd.prog 76 #[.int .u64 (r.toNat : Int), .int .u64 ((b.toNat : Nat) : Int)] w fun e w' => e = .returned (.int .u64 ((stepR r b).toNat : Int)) ∧ w = w' := by
  have H : Hid (stepR r b = (r <<< 1) ^^^ (if (r.msb ^^ b) then poly else 0#32)) := rfl
  have ht := rg_top r
  have hr := rg_lt r
  have hr2 := rg_lt (r <<< 1)
  have hs : (2 : Int) * (r.toNat : Int) % (4294967296 : Int) = ((r <<< 1).toNat : Int) := by rw [Int.mul_comm, rg_dbl]
  have HS := Lib.hid hs
  have e0 : ((false.toNat : Nat) : Int) = 0 := rfl
  have e1 : ((true.toNat : Nat) : Int) = 1 := rfl
  clear hs
  cases hm : r.msb <;> cases b
  all_goals
    rw [hm] at ht H
    first | rw [e0] | rw [e1]
  · have t1 : ((r.toNat : Int) / (2147483648 : Int) != 0) = false := by have : ¬ (r.toNat : Int) / (2147483648 : Int) = 1 := (by simpa using ht); simp; omega
    go_enter Tryd.func76, Tryd.ntmps76
    go_wp2_with fail
    go_ret
    rw [H.out]
    refine ⟨?_, rfl⟩
    rw [HS.out]
    simp
  · have t1 : ((r.toNat : Int) / (2147483648 : Int) != 1) = true := by have : ¬ (r.toNat : Int) / (2147483648 : Int) = 1 := (by simpa using ht); simp; omega
    go_enter Tryd.func76, Tryd.ntmps76
    go_wp2_with fail
    rw [HS.out]
    refine (turned_any (r <<< 1).toNat poly.toNat w hr2 (by decide)).mono ?_
    rintro e w' ⟨rfl, rfl⟩
    go_wp2_with fail
    go_ret
    rw [H.out]
    exact ⟨rfl, rfl⟩
  · have t1 : ((r.toNat : Int) / (2147483648 : Int) != 0) = true := by have : (r.toNat : Int) / (2147483648 : Int) = 1 := (by simpa using ht); simp; omega
    go_enter Tryd.func76, Tryd.ntmps76
    go_wp2_with fail
    rw [HS.out]
    refine (turned_any (r <<< 1).toNat poly.toNat w hr2 (by decide)).mono ?_
    rintro e w' ⟨rfl, rfl⟩
    go_wp2_with fail
    go_ret
    rw [H.out]
    exact ⟨rfl, rfl⟩
  · have t1 : ((r.toNat : Int) / (2147483648 : Int) != 1) = false := by have : (r.toNat : Int) / (2147483648 : Int) = 1 := (by simpa using ht); simp; omega
    go_enter Tryd.func76, Tryd.ntmps76
    go_wp2_with fail
    go_ret
    rw [H.out]
    refine ⟨?_, rfl⟩
    rw [HS.out]
    simp

theorem bits8_at : ∀ x, x < 256 → ∀ k, k < 8 → x / (128 / 2 ^ k) % 2 = ((bits8 x).getD k false).toNat := by decide +kernel
theorem rg_notN (r : Rg) : (4294967295 : Int) - (r.toNat : Int) = ((~~~r).toNat : Int) := by
  have := rg_lt r
  rw [BitVec.toNat_not]
  omega

/-- What was sealed: the bytes, or why not. -/
def openB (l : List UInt8) : Except Nat (List UInt8) := if l.length < 4 then .error 20 else if l.take (l.length - 4) ++ beB (sumOf (l.take (l.length - 4))).toNat 4 = l then .ok (l.take (l.length - 4)) else .error 21
end Go.Proofs.YtlidbgidbpaenaaDoor
