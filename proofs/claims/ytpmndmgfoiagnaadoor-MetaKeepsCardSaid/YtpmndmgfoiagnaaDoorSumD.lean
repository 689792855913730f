/- lapstoneref02.turned, Step: what they return. -/
import Derived.Test.YtpmndmgfoiagnaaDoorSumA
import Derived.Test.YtpmndmgfoiagnaaDoorStr
import Derived.Test.YtpmndmgfoiagnaaDoorTy
namespace Go.Proofs.YtpmndmgfoiagnaaDoor
open Go Go.RowKit
set_option linter.unusedVariables false


theorem xor_next (a b i : Nat) : (a ^^^ b) % 2 ^ (i + 1) = (a ^^^ b) % 2 ^ i + (if a / 2 ^ i % 2 = b / 2 ^ i % 2 then 0 else 2 ^ i) := by
  rw [Nat.pow_succ, Nat.mod_mul]
  congr 1
  have ea : a.testBit i = decide (a / 2 ^ i % 2 = 1) := Nat.testBit_eq_decide_div_mod_eq
  have eb : b.testBit i = decide (b / 2 ^ i % 2 = 1) := Nat.testBit_eq_decide_div_mod_eq
  have ex : (a ^^^ b).testBit i = decide ((a ^^^ b) / 2 ^ i % 2 = 1) := Nat.testBit_eq_decide_div_mod_eq
  rw [Nat.testBit_xor, ea, eb] at ex
  have h1 := Nat.mod_two_eq_zero_or_one (a / 2 ^ i)
  have h2 := Nat.mod_two_eq_zero_or_one (b / 2 ^ i)
  have h3 := Nat.mod_two_eq_zero_or_one ((a ^^^ b) / 2 ^ i)
  rcases h1 with h1 | h1 <;> rcases h2 with h2 | h2 <;> rcases h3 with h3 | h3 <;> rw [h1, h2, h3] at ex <;> rw [h1, h2, h3] <;> simp at ex ⊢

set_option maxHeartbeats 400000 in
theorem turned_any (a b : Nat) (w : World) (ha : a < 4294967296) (hb : b < 4294967296) :
    Calls Tryd.prog 82 #[.int .u64 (a : Int), .int .u64 (b : Int)] w fun e w' => e = .returned (.int .u64 ((a ^^^ b : Nat) : Int)) ∧ w = w' := by
  go_enter Tryd.func82, Tryd.ntmps82
  go_wp2_with fail
  go_loop [0, 1, 5, 6, 7] (fun av bv ov pv iv => ∃ A B O P i : Nat, av = .int .u64 (A : Int) ∧ bv = .int .u64 (B : Int) ∧ ov = .int .u64 (O : Int) ∧ pv = .int .u64 (P : Int) ∧ iv = .int .i64 (i : Int) ∧ A < 4294967296 ∧ B < 4294967296 ∧ O ≤ 4294967296 ∧ P ≤ 4294967296 ∧ i ≤ 32 ∧ Hid (A = a / 2 ^ i) ∧ Hid (B = b / 2 ^ i) ∧ Hid (O = (a ^^^ b) % 2 ^ i) ∧ Hid (P = 2 ^ i)) (fun _ _ _ _ iv => 32 - (intOf iv).toNat)
  case atStart => exact ⟨a, b, 0, 1, 0, rfl, rfl, rfl, rfl, rfl, ha, hb, by omega, by omega, by omega, by simp [Hid], by simp [Hid], by simp [Hid, Nat.mod_one], rfl⟩
  case round =>
    obtain ⟨A, B, O, P, i, rfl, rfl, rfl, rfl, rfl, hA, hB, hO, hP, hi, HA, HB, HO, HP⟩ := hrel
    by_cases hlt : i < 32
    · have hx := xor_next a b i
      have hle : (a ^^^ b) % 2 ^ (i + 1) < 2 ^ (i + 1) := Nat.mod_lt _ (Nat.pow_pos (by omega))
      have hpe : 2 ^ (i + 1) ≤ 2 ^ 32 := Nat.pow_le_pow_right (by omega) (by omega)
      rw [← HA.out, ← HB.out, ← HO.out, ← HP.out] at hx
      have hP2 : P * 2 ≤ 4294967296 := by rw [HP.out, ← Nat.pow_succ]; exact hpe
      have HA2 : Hid (A / 2 = a / 2 ^ (i + 1)) := by rw [HA.out, Nat.div_div_eq_div_mul, Nat.pow_succ]; rfl
      have HB2 : Hid (B / 2 = b / 2 ^ (i + 1)) := by rw [HB.out, Nat.div_div_eq_div_mul, Nat.pow_succ]; rfl
      have HP2 : Hid (2 * P = 2 ^ (i + 1)) := by rw [HP.out, Nat.pow_succ, Nat.mul_comm]; rfl
      have hO1 : (a ^^^ b) % 2 ^ (i + 1) ≤ 4294967296 := Nat.le_trans (Nat.le_of_lt hle) hpe
      clear hle hpe
      by_cases hab : A % 2 = B % 2
      · rw [if_pos hab] at hx
        rw [hx] at hO1
        have HX := Lib.hid hx
        have t1 : ((A : Int) % (2 : Int) == (B : Int) % (2 : Int)) = true := by simp; omega
        have t2 : ((A : Int) % (2 : Int) != (B : Int) % (2 : Int)) = false := by simp; omega
        clear hx hab
        go_wp2_with fail
        go_round
        case rel => exact ⟨A / 2, B / 2, O, 2 * P, i + 1, by go_num, by go_num, rfl, by go_num, by go_num, by omega, by omega, by omega, by omega, by omega, HA2, HB2, by rw [HX.out]; rfl, HP2⟩
        case measure => simp [intOf]; omega
      · rw [if_neg hab] at hx
        rw [hx] at hO1
        have HX := Lib.hid hx
        have t1 : ((A : Int) % (2 : Int) == (B : Int) % (2 : Int)) = false := by simp; omega
        have t2 : ((A : Int) % (2 : Int) != (B : Int) % (2 : Int)) = true := by simp; omega
        clear hx hab
        go_wp2_with fail
        go_round
        case rel => exact ⟨A / 2, B / 2, O + P, 2 * P, i + 1, by go_num, by go_num, by go_num, by go_num, by go_num, by omega, by omega, by omega, by omega, by omega, HA2, HB2, by rw [HX.out]; rfl, HP2⟩
        case measure => simp [intOf]; omega
    · obtain rfl : i = 32 := by omega
      have hx : a ^^^ b < 2 ^ 32 := Nat.xor_lt_two_pow ha hb
      have HX : Hid (O = a ^^^ b) := by rw [HO.out, Nat.mod_eq_of_lt hx]; rfl
      clear hx
      go_wp2_with fail
      go_ret
      rw [HX.out]
      exact ⟨rfl, rfl⟩

set_option maxHeartbeats 400000 in
theorem refStep_any (r : Rg) (b : Bool) (w : World) :
    Calls Tryd.prog 79 #[.int .u64 (r.toNat : Int), .int .u64 ((b.toNat : Nat) : Int)] w fun e w' => e = .returned (.int .u64 ((stepR r b).toNat : Int)) ∧ w = w' := by
  have H : Hid (stepR r b = (r <<< 1) ^^^ (if (r.msb ^^ b) then poly else 0#32)) := rfl
  have ht := rg_top r
  have hr := rg_lt r
  have hr2 := rg_lt (r <<< 1)
  have hs : (2 : Int) * (r.toNat : Int) % (4294967296 : Int) = ((r <<< 1).toNat : Int) := by rw [Int.mul_comm, rg_dbl]
  have HS := Lib.hid hs
  have e0 : ((false.toNat : Nat) : Int) = 0 := rfl
  have e1 : ((true.toNat : Nat) : Int) = 1 := rfl
  clear hs
  cases hm : r.msb <;> cases b
  all_goals
    rw [hm] at ht H
    first | rw [e0] | rw [e1]
  · have t1 : ((r.toNat : Int) / (2147483648 : Int) != 0) = false := by have : ¬ (r.toNat : Int) / (2147483648 : Int) = 1 := (by simpa using ht); simp; omega
    go_enter Tryd.func79, Tryd.ntmps79
    go_wp2_with fail
    go_ret
    rw [H.out]
    refine ⟨?_, rfl⟩
    rw [HS.out]
    simp
  · have t1 : ((r.toNat : Int) / (2147483648 : Int) != 1) = true := by have : ¬ (r.toNat : Int) / (2147483648 : Int) = 1 := (by simpa using ht); simp; omega
    go_enter Tryd.func79, Tryd.ntmps79
    go_wp2_with fail
    rw [HS.out]
    refine (turned_any (r <<< 1).toNat poly.toNat w hr2 (by decide)).mono ?_
    rintro e w' ⟨rfl, rfl⟩
    go_wp2_with fail
    go_ret
    rw [H.out]
    exact ⟨rfl, rfl⟩
  · have t1 : ((r.toNat : Int) / (2147483648 : Int) != 0) = true := by have : (r.toNat : Int) / (2147483648 : Int) = 1 := (by simpa using ht); simp; omega
    go_enter Tryd.func79, Tryd.ntmps79
    go_wp2_with fail
    rw [HS.out]
    refine (turned_any (r <<< 1).toNat poly.toNat w hr2 (by decide)).mono ?_
    rintro e w' ⟨rfl, rfl⟩
    go_wp2_with fail
    go_ret
    rw [H.out]
    exact ⟨rfl, rfl⟩
  · have t1 : ((r.toNat : Int) / (2147483648 : Int) != 1) = false := by have : (r.toNat : Int) / (2147483648 : Int) = 1 := (by simpa using ht); simp; omega
    go_enter Tryd.func79, Tryd.ntmps79
    go_wp2_with fail
    go_ret
    rw [H.out]
    refine ⟨?_, rfl⟩
    rw [HS.out]
    simp

theorem bits8_at : ∀ x, x < 256 → ∀ k, k < 8 → x / (128 / 2 ^ k) % 2 = ((bits8 x).getD k false).toNat := by decide +kernel
theorem rg_notN (r : Rg) : (4294967295 : Int) - (r.toNat : Int) = ((~~~r).toNat : Int) := by
  have := rg_lt r
  rw [BitVec.toNat_not]
  omega

/-- What was sealed: the bytes, or why not. -/
def openB (l : List UInt8) : Except Nat (List UInt8) := if l.length < 4 then .error 20 else if l.take (l.length - 4) ++ beB (sumOf (l.take (l.length - 4))).toNat 4 = l then .ok (l.take (l.length - 4)) else .error 21
end Go.Proofs.YtpmndmgfoiagnaaDoor
