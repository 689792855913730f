/- The statements of layer 2: SumSteps. -/
import Derived.Test.YtgoemlcbpnnciabDoorSumC
namespace Go.Proofs.YtgoemlcbpnnciabDoor
open Go Go.RowKit
set_option linter.unusedVariables false

set_option maxHeartbeats 400000 in
theorem stepX_any (v : Rg) (b : Bool) (w : World) :
    Calls Tryd.prog 8 #[rv v, .bool b] w fun e w' => e = .returned (rv (~~~(stepR (~~~v) b))) ∧ w = w' := by
  go_enter Tryd.func8, Tryd.ntmps8
  go_wp2_with fail
  rw [rg_not]
  refine (step_any (~~~v) b w).mono ?_
  rintro e w1 ⟨rfl, rfl⟩
  go_wp2_with fail
  go_ret
  rw [rg_not]
  exact ⟨rfl, rfl⟩

theorem bit_test (x sh : Nat) (hx : x < 256) (hs : sh < 8) : (bits .and .u8 ((x : Int) / 2 ^ sh) 1 == 1) = (bits8 x).getD (7 - sh) false := by
  have e : ((x : Int) / 2 ^ sh) = ((x / 2 ^ sh : Nat) : Int) := by rw [Int.natCast_ediv, Int.natCast_pow]; rfl
  have hle : x / 2 ^ sh ≤ x := Nat.div_le_self _ _
  have h := u8_and_nat (x / 2 ^ sh) 1 (by omega) (by omega)
  rw [e, show (1 : Int) = ((1 : Nat) : Int) from rfl, h, Nat.and_one_is_mod]
  have h2 := bits8_at x hx (7 - sh) (by omega)
  have h3 : 128 / 2 ^ (7 - sh) = 2 ^ sh := by
    have : ∀ s, s < 8 → 128 / 2 ^ (7 - s) = 2 ^ s := by decide
    exact this sh hs
  rw [h3] at h2
  rw [h2]
  cases (bits8 x).getD (7 - sh) false <;> rfl
theorem ret_bool {a b : Bool} (h : a = b) : Ending.returned (.bool a) = .returned (.bool b) := by rw [h]
theorem not_back (n : Nat) (h : n < 4294967296) : ((4294967295 : Int) - ((4294967295 - n : Nat) : Int) == (n : Int)) = true := by
  rw [beq_iff_eq]
  omega
theorem bits8_full (x : Nat) : (bits8 x).take 8 = bits8 x := rfl
theorem bit0_of (x : Nat) (hx : x < 256) (b : Bool) (h : x % 2 = b.toNat) : bits .and .u8 (x : Int) 1 = ((b.toNat : Nat) : Int) := by
  have := u8_and_nat x 1 hx (by omega)
  rw [Nat.and_one_is_mod, h] at this
  exact this

set_option maxHeartbeats 2000000 in
set_option maxRecDepth 100000 in
theorem law_SumSteps (v x : Nat) (w : World) (hb : BitsOk w) (hv : v < 4294967296) (hx : x < 256) :
    Calls Tryd.prog 4 #[.int .u32 v, .int .u8 x] w fun e w' => e = .returned (.bool true) ∧ Below w.heap.size w w' := by
  have HB := Lib.hid hb
  clear hb
  obtain ⟨r, hr⟩ : ∃ r : Rg, v = r.toNat := ⟨BitVec.ofNat 32 v, by rw [BitVec.toNat_ofNat]; omega⟩
  subst hr
  go_enter Tryd.func4, Tryd.ntmps4
  go_wp2_with fail
  go_loop [5, 6] (fun q_ iv => ∃ (k : Nat) (q : Rg), k ≤ 8 ∧ iv = .int .i64 ((k : Int) - 1) ∧ q_ = rv q ∧ Hid (~~~q = feed (~~~r) ((bits8 x).take (8 - k)))) (fun _ iv => (intOf iv + 1).toNat)
  case atStart => exact ⟨8, r, by omega, by go_num, rfl, rfl⟩
  case round =>
    obtain ⟨k, q, hk, rfl, rfl, HQ⟩ := hrel
    rcases k with _ | sh
    · rw [show (((0 : Nat) : Int) - 1) = (-1 : Int) from rfl]
      have HQ2 : Hid (sumMore r [UInt8.ofNat x] = q) := by
        have h := HQ.out
        rw [Nat.sub_zero, bits8_full] at h
        rw [Hid, sumMore, moreR, List.foldl_cons, List.foldl_nil, byteR, UInt8.toNat_ofNat', Nat.mod_eq_of_lt (by omega), ← h, BitVec.not_not]
      obtain ⟨b0, hb0⟩ : ∃ b0 : Bool, x % 2 = b0.toNat := by
        rcases Nat.mod_two_eq_zero_or_one x with h | h
        · exact ⟨false, h⟩
        · exact ⟨true, h⟩
      have ha := bit0_of x hx b0 hb0
      have hrl := rg_lt r
      have hml : (UInt8.ofNat x).toNat = x := by rw [UInt8.toNat_ofNat', Nat.mod_eq_of_lt (by omega)]
      have tb : ((b0.toNat : Int) == 1) = b0 := by cases b0 <;> rfl
      have hb2 : b0.toNat ≤ 1 := by cases b0 <;> decide
      clear hb0
      go_wp2_with fail
      refine (awake2_any w HB.out).mono ?_
      rintro e w1 ⟨rfl, q1⟩
      go_wp2_with fail
      have hbs := Bs.one w1 5 (x : Int) (by omega) (by omega) rfl
      refine (more_any _ _ r [UInt8.ofNat x] _ (by simp) (by simpa using hbs)).mono ?_
      rintro e w2 ⟨rfl, hbl2⟩
      have q2 := below_chain q1 (((Below.refl _ _).alloc (Nat.le_refl _) _).trans (hbl2.mono (by simp)))
      rw [HQ2.out]
      clear hbs hbl2 q1
      go_wp2_with fail
      refine (stepX_any r b0 w2).mono ?_
      rintro e w3 ⟨rfl, rfl⟩
      have hlt := rg_lt (~~~(stepR (~~~r) b0))
      go_wp2_with fail
      rw [rg_notN r]
      refine (refStep_any (~~~r) b0 w2).mono ?_
      rintro e w3 ⟨rfl, rfl⟩
      go_wp2_with fail
      go_ret
      exact ⟨ret_bool (not_back _ (rg_lt _)), q2⟩
    · rw [show (((sh + 1 : Nat) : Int) - 1) = (sh : Int) by omega]
      have HT := Lib.hid (bit_test x sh hx (by omega))
      have HQ2 : Hid (~~~(~~~(stepR (~~~q) ((bits8 x).getD (7 - sh) false))) = feed (~~~r) ((bits8 x).take (8 - sh))) := by
        rw [Hid, BitVec.not_not, HQ.out, show 8 - sh = (8 - (sh + 1)) + 1 by omega, List.take_succ_eq_append_getElem (show 8 - (sh + 1) < (bits8 x).length from by rw [bits8_length]; omega), feed_append]
        rw [show 7 - sh = 8 - (sh + 1) by omega]
        rw [List.getD_eq_getElem?_getD, List.getElem?_eq_getElem (show 8 - (sh + 1) < (bits8 x).length from by rw [bits8_length]; omega)]
        rfl
      go_wp2_with fail
      rw [HT.out]
      refine (stepX_any q _ w).mono ?_
      rintro e w1 ⟨rfl, rfl⟩
      go_wp2_with fail
      go_round
      case rel => exact ⟨sh, _, by omega, by go_num, rfl, HQ2⟩
      case measure => simp [intOf]
end Go.Proofs.YtgoemlcbpnnciabDoor
