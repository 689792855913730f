/- The statements of layer 1: NumOrder, NumGets. -/
import Derived.Test.YtgoemlcbpnnciaaDoorLaw1D
namespace Go.Proofs.YtgoemlcbpnnciaaDoor
open Go Go.RowKit
set_option linter.unusedVariables false

theorem shr_zero {x k : Nat} (h : x < 256 ^ k) : x / 2 ^ (8 * k) = 0 := by
  rw [Nat.pow_mul]
  exact Nat.div_eq_of_lt h
theorem small_of8 {x : Nat} (hx : x < U64) {k : Nat} (h : ¬ x < 256 ^ k) : k < 8 := by
  rcases Nat.lt_or_ge k 8 with h' | h'
  · exact h'
  · exfalso
    have h2 : (256 : Nat) ^ 8 ≤ 256 ^ k := Nat.pow_le_pow_right (by omega) h'
    unfold U64 at hx
    omega
theorem shr_ne {x k : Nat} (h : ¬ x < 256 ^ k) : ¬ x / 2 ^ (8 * k) = 0 := by
  have e : (2 : Nat) ^ (8 * k) = 256 ^ k := by rw [Nat.pow_mul]
  have hpos : 0 < 256 ^ k := Nat.pow_pos (by omega)
  rw [e, Nat.div_eq_zero_iff]
  omega

/-- What num.Put gives back, whatever it is asked. -/
def PutPost (l : List UInt8) (x : Nat) (n : Int) (w : World) (e : Ending) (w' : World) : Prop :=
  Below w.heap.size w w' ∧
    ((1 ≤ n ∧ n ≤ 8 ∧ x < 256 ^ n.toNat ∧ ∃ A k c, e = .returned (.tuple #[.slice A k c, .int .i64 0]) ∧ Ob 5 w' w.heap.size (.slice A k c) (l ++ beB x n.toNat)) ∨
     ((n < 1 ∨ 8 < n ∨ ¬ x < 256 ^ n.toNat) ∧ e = .returned (.tuple #[.slice none 0 0, .int .i64 11])))
theorem put_any (S : Nat → Prop) (v0 : Value) (l : List UInt8) (x : Nat) (n : Int) (w : World) (hx : x < U64) (hb : BitsOk w) (hl : l.length ≤ 1099511627776) (hr : Bs S w v0 l) :
    Calls Tryd.prog 16 #[v0, .int .u64 x, .int .i64 n] w (PutPost l x n w) := by
  by_cases hn : n < 1 ∨ 8 < n
  · exact (put_range v0 x n w hn).mono fun e w' ⟨he, hbl⟩ => ⟨hbl, .inr ⟨by omega, he⟩⟩
  · obtain ⟨k, rfl⟩ : ∃ k : Nat, n = (k : Int) := ⟨n.toNat, by omega⟩
    by_cases hx2 : x < 256 ^ k
    · exact (put_ok S v0 l x k w (by omega) (by omega) hx (fun _ => shr_zero hx2) hb hl hr).mono fun e w' ⟨A, k', c, he, ho, hbl⟩ => ⟨hbl, .inl ⟨by omega, by omega, by simpa using hx2, A, k', c, he, by simpa using ho⟩⟩
    · exact (put_over v0 x k w (by omega) (small_of8 hx hx2) hx (shr_ne hx2) hb).mono fun e w' ⟨he, hbl⟩ => ⟨hbl, .inr ⟨by right; right; simpa using hx2, he⟩⟩

set_option maxHeartbeats 2000000 in
set_option maxRecDepth 100000 in
theorem law_NumOrder (x y : Nat) (n : Int) (w : World) (hb : BitsOk w) (hx : x < U64) (hy : y < U64) (hn : -9223372036854775808 ≤ n ∧ n ≤ 9223372036854775807) :
    Calls Tryd.prog 7 #[.int .u64 x, .int .u64 y, .int .i64 n] w fun e w' => e = .returned (.bool true) ∧ Below w.heap.size w w' := by
  have HB := Lib.hid hb
  clear hb hn
  go_enter Tryd.func7, Tryd.ntmps7
  go_wp2_with fail
  refine (put_any (fun _ => False) _ [] x n w hx HB.out (by simp) (Bs.nilv _ _)).mono ?_
  rintro e w1 ⟨hbl1, h1⟩
  rcases h1 with ⟨hn1, hn8, hx2, A1, k1, c1, rfl, hown1⟩ | ⟨hbad, rfl⟩
  case' inr =>
    clear hbad
    go_wp2_with fail
    refine (put_any (fun _ => False) _ [] y n w1 hy (HB.out.later hbl1) (by simp) (Bs.nilv _ _)).mono ?_
    rintro e w2 ⟨hbl2, h2⟩
    have hbl := below_chain hbl1 hbl2
    rcases h2 with ⟨_, _, _, A2, k2, c2, rfl, _⟩ | ⟨_, rfl⟩
    all_goals
      go_wp2_with fail
      refine (awake_any w2 (HB.out.later hbl)).mono ?_
      rintro e w3 ⟨rfl, hbl3⟩
      have hbl' := below_chain hbl hbl3
      go_wp2_with fail
      refine (awake_any w3 (HB.out.later hbl')).mono ?_
      rintro e w4 ⟨rfl, hbl4⟩
      go_wp2_with fail
      go_ret
      exact ⟨rfl, below_chain hbl' hbl4⟩
  go_wp2_with fail
  refine (put_any (fun _ => False) _ [] y n w1 hy (HB.out.later hbl1) (by simp) (Bs.nilv _ _)).mono ?_
  rintro e w2 ⟨hbl2, h2⟩
  have hbl := below_chain hbl1 hbl2
  rcases h2 with ⟨_, _, hy2, A2, k2, c2, rfl, hown2⟩ | ⟨hbad, rfl⟩
  case' inr =>
    clear hbad
    go_wp2_with fail
    refine (awake_any w2 (HB.out.later hbl)).mono ?_
    rintro e w3 ⟨rfl, hbl3⟩
    have hbl' := below_chain hbl hbl3
    go_wp2_with fail
    refine (awake_any w3 (HB.out.later hbl')).mono ?_
    rintro e w4 ⟨rfl, hbl4⟩
    go_wp2_with fail
    go_ret
    exact ⟨rfl, below_chain hbl' hbl4⟩
  go_wp2_with fail
  refine (awake_any w2 (HB.out.later hbl)).mono ?_
  rintro e w3 ⟨rfl, hbl3⟩
  have hbl' := below_chain hbl hbl3
  have o1 := (hown1.later hbl2).later hbl3
  have o2 := hown2.later hbl3
  have hc := cmpB_deB (beB x n.toNat) (beB y n.toNat) (by rw [beB_length, beB_length])
  rw [deB_beB _ _ hx2, deB_beB _ _ hy2] at hc
  have HC := Lib.hid hc
  clear hc hx2 hy2
  go_wp2_with fail
  refine (cmp_any _ _ _ _ ([] ++ beB x n.toNat) ([] ++ beB y n.toNat) w3 (by simp [beB_length]; omega) (by simp [beB_length]; omega) o1.bs o2.bs).mono ?_
  rintro e w4 ⟨rfl, hdr⟩
  simp only [List.nil_append]
  rw [HC.out]
  by_cases hlt : x < y
  · rw [if_pos hlt]
    have h2 : ¬ y < x := by omega
    go_wp2_with fail
    go_ret
    exact ⟨rfl, hbl'.trans (hdr.below _)⟩
  · rw [if_neg hlt]
    by_cases hlt2 : y < x
    · rw [if_pos hlt2]
      go_wp2_with fail
      go_ret
      exact ⟨rfl, hbl'.trans (hdr.below _)⟩
    · rw [if_neg hlt2]
      go_wp2_with fail
      go_ret
      exact ⟨rfl, hbl'.trans (hdr.below _)⟩

end Go.Proofs.YtgoemlcbpnnciaaDoor
