/- What the proof of PagerLeast needs, part 32. -/
import Derived.Test.YtildohndbeagaaaGreatDoorPagerLeastJ1
import Derived.Test.YtildohndbeagaaaGreatDoorPagerLeastJ2
import Derived.Test.YtildohndbeagaaaGreatDoorPagerLeastJ4
import Derived.BigQuiet
import Derived.Deep.QuietTactic

namespace Go.Proofs.YtildohndbeagaaaGreatDoor
open Go Go.RowKit
set_option linter.unusedVariables false

theorem cmpB_step {l m : List UInt8} {i : Nat} (hi : i < l.length) (hi' : i < m.length) :
    cmpB (l.drop i) (m.drop i) = if l[i].toNat < m[i].toNat then -1 else if m[i].toNat < l[i].toNat then 1 else cmpB (l.drop (i + 1)) (m.drop (i + 1)) := by
  rw [List.drop_eq_getElem_cons hi, List.drop_eq_getElem_cons hi', cmpB]
theorem cmpB_endl {l m : List UInt8} {i : Nat} (hi : l.length ≤ i) (him : i ≤ m.length) (hil : i ≤ l.length) : cmpB (l.drop i) (m.drop i) = if l.length < m.length then -1 else 0 := by
  rw [List.drop_eq_nil_of_le hi]
  by_cases h : i < m.length
  · rw [List.drop_eq_getElem_cons h, if_pos (by omega), cmpB]
  · rw [List.drop_eq_nil_of_le (by omega), if_neg (by omega), cmpB]
theorem cmpB_endm {l m : List UInt8} {i : Nat} (hi : m.length ≤ i) (him : i ≤ m.length) (h : i < l.length) : cmpB (l.drop i) (m.drop i) = 1 := by
  rw [List.drop_eq_nil_of_le hi, List.drop_eq_getElem_cons h, cmpB]
theorem ret_i64 {a b : Int} (h : a = b) : Ending.returned (.int .i64 a) = .returned (.int .i64 b) := by rw [h]

end Go.Proofs.YtildohndbeagaaaGreatDoor

namespace Go.Proofs.YtildohndbeagaaaGreatDoor
open Go Go.RowKit
set_option linter.unusedVariables false


theorem st_empty : (⟨#[]⟩ : ByteArray) = st [] := rfl

/-- One byte more ahead: the number is divided. -/
theorem beB_front (x : Nat) : ∀ (i : Nat), beB x (i + 1) = UInt8.ofNat (x / 256 ^ i) :: beB x i := by
  intro i
  unfold beB
  rw [List.range_succ_eq_map, List.map_cons, List.map_map]
  congr 1
  apply List.map_congr_left
  intro k hk
  have hk := List.mem_range.1 hk
  simp only [Function.comp]
  rw [show i + 1 - 1 - (k + 1) = i - 1 - k from by omega]

def refVal : Except Nat (Nat × Nat) → Ending
  | .ok (v, n) => .returned (.tuple #[.int .u64 (v : Int), .int .i64 (n : Int), .int .i64 0])
  | .error e => .returned (.tuple #[.int .u64 0, .int .i64 0, .int .i64 (e : Int)])

set_option maxHeartbeats 1000000 in
set_option maxRecDepth 100000 in
theorem refGetVar_any (l : List UInt8) (w : World) (hl : l.length ≤ 1099511627776) :
    Calls Tryz.prog 63 #[.string (st l)] w fun e w' => e = refVal (getVarB l) ∧ w = w' := by
  go_enter Tryz.func63, Tryz.ntmps63
  go_wp2_with fail
  go_loop [5, 6, 7] (fun av pv iv => ∃ (i a p : Nat), iv = .int .i64 (i : Int) ∧ av = .int .u64 (a : Int) ∧ pv = .int .u64 (p : Int) ∧ i ≤ l.length ∧ i ≤ 9 ∧ Hid (a < 128 ^ i) ∧ Hid (p = 128 ^ i) ∧ p ≤ 9223372036854775808 ∧ a ≤ 9223372036854775808 ∧ Hid (getV i a (l.drop i) = getVarB l)) (fun _ _ iv => l.length - (intOf iv).toNat)
  case atStart => exact ⟨0, 0, 1, rfl, rfl, rfl, by omega, by omega, by simp [Hid], rfl, by omega, by omega, by simp [getVarB, Hid]⟩
  case round =>
    obtain ⟨i, a, p, rfl, rfl, rfl, hi, hi9, HA2, hp, hp2, ha2, hg⟩ := hrel
    by_cases hil : i < l.length
    · have HG := Lib.hid (getV_at hil hg.out)
      clear hg
      obtain ⟨x, hx⟩ : ∃ x, x = l[i].toNat := ⟨_, rfl⟩
      have hx256 : x < 256 := hx ▸ l[i].toNat_lt
      have HX := Lib.hid hx
      have hxi : (l[i].toNat : Int) = (x : Int) := by rw [hx]
      rw [← hx] at HG
      clear hx
      by_cases h1 : i = 9 ∧ 1 < x
      · have t1 : (i : Int) = 9 := by omega
        have t1' : ((i : Int) == 9) = true := by simp; omega
        have t2 : (1 : Int) < (x : Int) := by omega
        have hr : getVarB l = .error 12 := by
          have h := HG.out
          rw [if_pos (.inl h1)] at h
          exact h.symm
        have HR := Lib.hid hr
        clear h1 hr t1
        go_wp2_with fail
        go_ret3
        exact ⟨by rw [HR.out]; rfl, rfl⟩
      · by_cases h2 : 0 < i ∧ x = 0
        · have t1 : ((i : Int) == 9) = false ∨ ((i : Int) == 9) = true := by cases ((i : Int) == 9) <;> simp
          have t2 : ((x : Int) == 0) = true := by simp; omega
          have t3 : ¬ (1 : Int) < (x : Int) := by omega
          have t0 : (0 : Int) < (i : Int) := by omega
          have hr : getVarB l = .error 12 := by
            have h := HG.out
            rw [if_pos (.inr h2)] at h
            exact h.symm
          have HR := Lib.hid hr
          clear h1 h2 hr
          rcases t1 with t1 | t1
          all_goals
            go_wp2_with fail
            go_ret3
            exact ⟨by rw [HR.out]; rfl, rfl⟩
        · obtain ⟨t, ht⟩ : ∃ t, t = x % 128 * p := ⟨_, rfl⟩
          have htp : t = x % 128 * 128 ^ i := by rw [ht, hp.out]
          have hb : a + t < U64 ∧ (x < 128 ∨ a + t < 128 ^ (i + 1)) := by
            have hA := HA2.out
            by_cases h9 : i = 9
            · have hm : x % 128 ≤ 1 ∨ 128 ≤ x := by omega
              rcases hm with hm | hm
              · have h3 : x % 128 * 128 ^ i ≤ 1 * 128 ^ i := Nat.mul_le_mul_right _ hm
                subst h9
                unfold U64
                omega
              · omega
            · have h3 : x % 128 * 128 ^ i ≤ 127 * 128 ^ i := Nat.mul_le_mul_right _ (by omega)
              have h4 : (128 : Nat) ^ i ≤ 128 ^ 8 := Nat.pow_le_pow_right (by omega) (by omega)
              rw [Nat.pow_succ]
              unfold U64
              omega
          obtain ⟨hb1, hb2⟩ := hb
          have hbi : (a : Int) + (t : Int) ≤ 18446744073709551615 := by unfold U64 at hb1; omega
          have e0 : IntKind.u64.wrap ((x : Int) % 128 * (p : Int)) = (t : Int) := by
            have h6 : ((x : Int) % 128) = ((x % 128 : Nat) : Int) := by omega
            rw [h6, ht, Int.natCast_mul]
            exact wrap_u64 (by rw [← Int.natCast_mul, ← ht]; omega) (by rw [← Int.natCast_mul, ← ht]; omega)
          by_cases h3 : x < 128
          · have hr : getVarB l = .ok (a + t, i + 1) := by
              have h := HG.out
              rw [if_neg (by omega), if_pos h3] at h
              rw [← h, htp, show x % 128 = x from by omega]
            have HR := Lib.hid hr
            have t4 : (x : Int) < 128 := by omega
            clear hr ht htp hb1 hb2
            have hcase : ((i : Int) == 9) = true ∧ ¬ (1 : Int) < (x : Int) ∧ (0 : Int) < (i : Int) ∧ ((x : Int) == 0) = false ∨ ((i : Int) == 9) = false ∧ (0 : Int) < (i : Int) ∧ ((x : Int) == 0) = false ∨ ((i : Int) == 9) = false ∧ ¬ (0 : Int) < (i : Int) := by
              by_cases h9 : i = 9
              · exact .inl ⟨by simp; omega, by omega, by omega, by simp; omega⟩
              · by_cases h0 : 0 < i
                · exact .inr (.inl ⟨by simp; omega, by omega, by simp; omega⟩)
                · exact .inr (.inr ⟨by simp; omega, by omega⟩)
            clear h1 h2
            rcases hcase with ⟨t1, t2, t3, t5⟩ | ⟨t1, t2, t3⟩ | ⟨t1, t2⟩
            all_goals
              go_wp2_with fail
              go_ret3
              exact ⟨by rw [HR.out]; rfl, rfl⟩
          · have hr : getV (i + 1) (a + t) (l.drop (i + 1)) = getVarB l := by
              have h := HG.out
              rw [if_neg (by omega), if_neg h3] at h
              rw [htp]
              exact h
            have h9 : ¬ i = 9 := by omega
            have h8 : (128 : Nat) ^ (i + 1) ≤ 128 ^ 9 := Nat.pow_le_pow_right (by omega) (by omega)
            have hpp := hp.out
            have hp3 : p * 128 = 128 ^ (i + 1) := by rw [Nat.pow_succ, hpp]
            have HR := Lib.hid hr
            have HP := Lib.hid hp3
            have HB := Lib.hid (hb2.resolve_left h3)
            have hq : (p : Int) * 128 ≤ 9223372036854775808 := by omega
            have ha3 : a + t ≤ 9223372036854775808 := by have := HB.out; omega
            have t4 : ¬ (x : Int) < 128 := by omega
            have t1 : ((i : Int) == 9) = false := by simp; omega
            have t6 : ((x : Int) == 0) = false := by simp; omega
            clear hr ht htp hb1 hb2 h8 hpp hp3 h1 h2 hp
            by_cases h0 : 0 < i
            all_goals
              go_wp2_with fail
              go_round
              case rel => exact ⟨i + 1, a + t, p * 128, by go_num, by go_num, by go_num, by omega, by omega, HB, HP, by omega, ha3, HR⟩
              case measure => simp [intOf]; omega
    · have h := getV_end hil hg.out
      have HO := Lib.hid h
      clear h hg
      go_wp2_with fail
      go_ret3
      exact ⟨by rw [HO.out]; rfl, rfl⟩

end Go.Proofs.YtildohndbeagaaaGreatDoor

namespace Go.Proofs.YtildohndbeagaaaGreatDoor
open Go Go.RowKit
set_option linter.unusedVariables false

def numV (l : List UInt8) : Nat × List UInt8 × Nat := match getVarB l with
  | .error er => (0, l, rdErr er)
  | .ok (x, n) => (x, l.drop n, 0)
theorem numV_le (l : List UInt8) : (numV l).1 < U64 ∧ (numV l).2.1.length ≤ l.length ∧ (numV l).2.2 ≤ 1000 := by
  unfold numV
  cases h : getVarB l with
  | error er => exact ⟨by show (0 : Nat) < U64; unfold U64; decide, Nat.le_refl _, (rdErr_le h).1⟩
  | ok xn => obtain ⟨x, n⟩ := xn; exact ⟨(getVarB_bound h).1, by simp, by simp⟩
set_option maxHeartbeats 400000 in
theorem refNum_any (l : List UInt8) (w : World) (hl : l.length ≤ 1099511627776) :
    Calls Tryz.prog 33 #[.string (st l)] w fun e w' => e = .returned (.tuple #[.int .u64 ((numV l).1 : Int), .string (st (numV l).2.1), .int .i64 ((numV l).2.2 : Int)]) ∧ Below w.heap.size w w' := by
  cases hg : getVarB l with
  | error er =>
    have HG := Lib.hid hg
    have HN : Hid (numV l = (0, l, rdErr er)) := by unfold numV; rw [hg]; rfl
    have he : er = 10 ∨ er = 12 := getV_errs l 0 0 er hg
    clear hg
    rcases he with rfl | rfl
    all_goals
      go_enter Tryz.func33, Tryz.ntmps33
      go_wp2_with fail
      refine (refGetVar_any l w hl).mono ?_
      rintro e w1 ⟨rfl, rfl⟩
      rw [HG.out]
      simp only [refVal]
      go_wp2_with fail
      go_ret3
      rw [HN.out]
      exact ⟨rfl, Below.refl _ _⟩
  | ok xn =>
    obtain ⟨x, n⟩ := xn
    have HG := Lib.hid hg
    have HN : Hid (numV l = (x, l.drop n, 0)) := by unfold numV; rw [hg]; rfl
    have hdt : (l.drop n).take (l.length - n) = l.drop n := List.take_of_length_le (by simp)
    obtain ⟨_, hn1, hn2⟩ := getVarB_bound hg
    clear hg
    go_enter Tryz.func33, Tryz.ntmps33
    go_wp2_with fail
    refine (refGetVar_any l w hl).mono ?_
    rintro e w1 ⟨rfl, rfl⟩
    rw [HG.out]
    simp only [refVal]
    go_wp2_with fail
    go_quiet (fail)
    go_wp2_with fail
    go_ret3
    rw [HN.out]
    exact ⟨rfl, below_drewN (Below.refl _ _) _⟩
end Go.Proofs.YtildohndbeagaaaGreatDoor
