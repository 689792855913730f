/- num.GetVar, num.Get, num.Cmp: what they return. -/
import Derived.Test.YtpmndmgfoiagnaaDoorNumA
namespace Go.Proofs.YtpmndmgfoiagnaaDoor
open Go Go.RowKit
set_option linter.unusedVariables false

def GetVarPost (l : List UInt8) (w : World) (e : Ending) (w' : World) : Prop :=
  (∀ x n, getVarB l = .ok (x, n) → ∃ A k c, e = .returned (.tuple #[.int .u64 (x : Int), .slice A k c, .int .i64 0]) ∧ Ob 5 w' w.heap.size (.slice A k c) (l.drop n) ∧ Below w.heap.size w w') ∧
  (∀ er, getVarB l = .error er → e = .returned (.tuple #[.int .u64 0, .slice none 0 0, .int .i64 (er : Int)]) ∧ Below w.heap.size w w')

/-- One round of the reading: the byte that stands at i. -/
theorem getV_at {l : List UInt8} {i a : Nat} (h : i < l.length) {r : Except Nat (Nat × Nat)} (hg : getV i a (l.drop i) = r) :
    (if (i = 9 ∧ 1 < l[i].toNat) ∨ (0 < i ∧ l[i].toNat = 0) then .error 12 else if l[i].toNat < 128 then .ok (a + l[i].toNat * 128 ^ i, i + 1) else getV (i + 1) (a + (l[i].toNat % 128) * 128 ^ i) (l.drop (i + 1))) = r := by
  rw [← hg, List.drop_eq_getElem_cons h, getV]
theorem getV_end {l : List UInt8} {i a : Nat} (h : ¬ i < l.length) {r : Except Nat (Nat × Nat)} (hg : getV i a (l.drop i) = r) : r = .error 10 := by
  rw [← hg, List.drop_eq_nil_of_le (by omega), getV]
theorem post_err {l : List UInt8} {w : World} {er : Nat} (h : getVarB l = .error er) : GetVarPost l w (.returned (.tuple #[.int .u64 0, .slice none 0 0, .int .i64 (er : Int)])) w :=
  ⟨fun x n hx => (by rw [h] at hx; cases hx), fun er' h' => by rw [h] at h'; cases h'; exact ⟨rfl, Below.refl _ _⟩⟩
theorem post_okv {l : List UInt8} {w w' : World} {x n : Nat} (h : getVarB l = .ok (x, n)) {A : Option Addr} {k c : Nat} (hown : Ob 5 w' w.heap.size (.slice A k c) (l.drop n)) (hb : Below w.heap.size w w') :
    GetVarPost l w (.returned (.tuple #[.int .u64 (x : Int), .slice A k c, .int .i64 0])) w' :=
  ⟨fun x' n' hx => (by rw [h] at hx; cases hx; exact ⟨A, k, c, rfl, hown, hb⟩), fun er' h' => by rw [h] at h'; cases h'⟩

set_option maxHeartbeats 1000000 in
set_option maxRecDepth 100000 in
theorem getVar_any (S : Nat → Prop) (v0 : Value) (l : List UInt8) (w : World) (hl : l.length ≤ 1099511627776) (hr : Bs S w v0 l) :
    Calls Tryd.prog 77 #[v0] w (GetVarPost l w) := by
  have HR := Lib.hid hr
  obtain ⟨A, c, rfl, hlc, hcm, hA0, hA⟩ := hr.at
  have HA := Lib.hid hA
  clear hA hr
  go_enter Tryd.func77, Tryd.ntmps77
  go_wp2_with fail
  go_loop [5, 10] (fun av iv => ∃ (i a : Nat), iv = .int .i64 (i : Int) ∧ av = .int .u64 (a : Int) ∧ i ≤ l.length ∧ i ≤ 9 ∧ Hid (a < 128 ^ i) ∧ Hid (getV i a (l.drop i) = getVarB l)) (fun _ iv => l.length - (intOf iv).toNat)
  case atStart => exact ⟨0, 0, rfl, rfl, by omega, by omega, by simp [Hid], by simp [getVarB, Hid]⟩
  case round =>
    obtain ⟨i, a, rfl, rfl, hi, hi9, HA2, hg⟩ := hrel
    by_cases hil : i < l.length
    · obtain ⟨b, o, rfl, _, hcell⟩ := HA.out (by omega)
      have hc := hcell i hil
      clear hcell HA
      have HG := Lib.hid (getV_at hil hg.out)
      clear hg
      obtain ⟨x, hx⟩ : ∃ x, x = l[i].toNat := ⟨_, rfl⟩
      have hx256 : x < 256 := hx ▸ l[i].toNat_lt
      rw [← hx] at hc HG
      clear hx
      by_cases h1 : i = 9 ∧ 1 < x
      · have t1 : ((i : Int) == 9) = true := by simp; omega
        have t2 : (1 : Int) < (x : Int) := by omega
        have H1 := Lib.hid h1
        clear h1
        go_wp2_with fail
        go_ret3
        refine post_err ?_
        have h := HG.out
        rw [if_pos (.inl H1.out)] at h
        exact h.symm
      · by_cases h2 : 0 < i ∧ x = 0
        · have t1 : ((i : Int) == 9) = false ∨ ((i : Int) == 9) = true := by cases ((i : Int) == 9) <;> simp
          have t2 : ((x : Int) == 0) = true := by simp; omega
          have t3 : ¬ (1 : Int) < (x : Int) := by omega
          have H2 := Lib.hid h2
          have t0 : (0 : Int) < (i : Int) := by omega
          clear h2
          rcases t1 with t1 | t1
          all_goals
            go_wp2_with fail
            go_ret3
            refine post_err ?_
            have h := HG.out
            rw [if_pos (.inr H2.out)] at h
            exact h.symm
        · by_cases h3 : x < 128
          · have hok : getVarB l = .ok (a + x * 128 ^ i, i + 1) := by
              have h := HG.out
              rw [if_neg (by omega), if_pos h3] at h
              exact h.symm
            have hb := (getVarB_bound hok).1
            have hor := shl_or a x i HA2.out (by omega) (by omega)
            obtain ⟨y, hy⟩ : ∃ y, y = a + x * 128 ^ i := ⟨_, rfl⟩
            rw [← hy] at hor hok
            have HO := Lib.hid hok
            clear hok hb hy
            have tx : ((x : Int) < 128) := by omega
            have hdr : l.length - (i + 1) ≤ l.length := by omega
            have hcut := Lib.hid (Bs.cut HR.out (show i + 1 ≤ l.length from hil))
            by_cases h9 : i = 9
            case' pos =>
              have t1 : ((i : Int) == 9) = true := by simp; omega
              have t3 : ¬ (1 : Int) < (x : Int) := by omega
              have t0 : (0 : Int) < (i : Int) := by omega
              have t2 : ((x : Int) == 0) = false := by simp; omega
              clear h9 h1 h2
            case' neg =>
              have t1 : ((i : Int) == 9) = false := by simp; omega
              clear h9
              by_cases h0 : 0 < i
              case' pos =>
                have t0 : (0 : Int) < (i : Int) := by omega
                have t2 : ((x : Int) == 0) = false := by simp; omega
              case' neg =>
                have t0 : ¬ (0 : Int) < (i : Int) := by omega
            all_goals
              try clear h1 h2
              go_wp2_with (at_builtin; go_loud (refine wpList_append_bs _ rfl (.tmp 50) (.tmp 54) elemU8 rfl (Ob.made _ _ w.heap.size (by simp) (by simp)) (Sl.alloc1 hcut.out _) rfl rfl (by simp; omega) (by simp) ?_); intro A1 k1 c1 w1 hown1 hg1 hat1)
              all_goals
                go_ret3
                exact post_okv HO.out (by simpa using hown1) (below_grown_own ((Below.refl _ _).alloc (Nat.le_refl _) _) (Ob.made _ _ w.heap.size (by simp) (by simp)) hg1 (by simp))
          · have hlow : x % 128 < 128 := by omega
            have hne : ¬ i = 9 := by omega
            have hst : getV (i + 1) (a + x % 128 * 128 ^ i) (l.drop (i + 1)) = getVarB l := by
              have h := HG.out
              rw [if_neg (by omega), if_neg h3] at h
              exact h
            have hp : a + x % 128 * 128 ^ i < 128 ^ (i + 1) := by
              have h1 : x % 128 * 128 ^ i ≤ 127 * 128 ^ i := Nat.mul_le_mul_right _ (by omega)
              have := HA2.out
              rw [Nat.pow_succ]; omega
            have h8 : (128 : Nat) ^ (i + 1) ≤ 128 ^ 9 := Nat.pow_le_pow_right (by omega) (by omega)
            have hand := and127 x hx256
            have hor := shl_or a (x % 128) i HA2.out (by unfold U64; omega) (by unfold U64; omega)
            obtain ⟨q, hq⟩ : ∃ q, q = x % 128 := ⟨_, rfl⟩
            rw [← hq] at hor hand hst hp hlow
            obtain ⟨y, hy⟩ : ∃ y, y = a + q * 128 ^ i := ⟨_, rfl⟩
            rw [← hy] at hor hst hp
            have t1 : ((i : Int) == 9) = false := by simp; omega
            have tx : ¬ ((x : Int) < 128) := by omega
            have t2 : ((x : Int) == 0) = false := by simp; omega
            have HS := Lib.hid hst
            have HP := Lib.hid hp
            clear hst hp hy hq h8 h1 h2 HG HA2
            by_cases h0 : 0 < i
            all_goals
              go_wp2_with fail
              go_round
              case rel => exact ⟨i + 1, y, by go_num, rfl, by omega, by omega, HP, HS⟩
              case measure => simp [intOf]; omega
    · have h := getV_end hil hg.out
      have HO := Lib.hid h
      clear h hg
      go_wp2_with fail
      go_ret3
      exact post_err HO.out

set_option maxHeartbeats 400000 in
theorem get_range (v0 : Value) (n : Int) (w : World) (hn : n < 1 ∨ 8 < n) :
    Calls Tryd.prog 55 #[v0, .int .i64 n] w fun e w' => e = .returned (.tuple #[.int .u64 0, .slice none 0 0, .int .i64 11]) ∧ w = w' := by
  rcases hn with hn | hn
  · go_enter Tryd.func55, Tryd.ntmps55
    go_wp2
    go_ret3
    exact ⟨rfl, rfl⟩
  · have h1 : ¬ n < 1 := by omega
    go_enter Tryd.func55, Tryd.ntmps55
    go_wp2
    go_ret3
    exact ⟨rfl, rfl⟩

set_option maxHeartbeats 400000 in
theorem get_short (A : Option Addr) (k c n : Nat) (w : World) (hn : 1 ≤ n) (hn8 : n ≤ 8) (hk : k < n) :
    Calls Tryd.prog 55 #[.slice A k c, .int .i64 n] w fun e w' => e = .returned (.tuple #[.int .u64 0, .slice none 0 0, .int .i64 10]) ∧ w = w' := by
  have h1 : ¬ (n : Int) < 1 := by omega
  have h2 : ¬ 8 < (n : Int) := by omega
  go_enter Tryd.func55, Tryd.ntmps55
  go_wp2
  go_ret3
  exact ⟨rfl, rfl⟩

set_option maxHeartbeats 1000000 in
set_option maxRecDepth 100000 in
theorem get_ok (S : Nat → Prop) (v0 : Value) (l : List UInt8) (n : Nat) (w : World) (hn : 1 ≤ n) (hn8 : n ≤ 8) (hk : n ≤ l.length) (hl : l.length ≤ 1099511627776) (hr : Bs S w v0 l) :
    Calls Tryd.prog 55 #[v0, .int .i64 n] w fun e w' => ∃ A k c, e = .returned (.tuple #[.int .u64 (deB (l.take n) : Int), .slice A k c, .int .i64 0]) ∧ Ob 5 w' w.heap.size (.slice A k c) (l.drop n) ∧ Below w.heap.size w w' := by
  have h1 : ¬ (n : Int) < 1 := by omega
  have h2 : ¬ 8 < (n : Int) := by omega
  have HR := Lib.hid hr
  obtain ⟨A, c, rfl, hlc, hcm, hA0, hA⟩ := hr.at
  obtain ⟨b, o, rfl, _, hcell⟩ := hA (by omega)
  have HA := Lib.hid hcell
  clear hA hr hcell
  go_enter Tryd.func55, Tryd.ntmps55
  go_wp2_with fail
  go_loop [7, 22] (fun av iv => ∃ (i a : Nat), iv = .int .i64 (i : Int) ∧ av = .int .u64 (a : Int) ∧ i ≤ n ∧ Hid (a = deB (l.take i))) (fun _ iv => n - (intOf iv).toNat)
  case atStart => exact ⟨0, 0, rfl, rfl, by omega, by simp [Hid, deB]⟩
  case round =>
    obtain ⟨i, a, rfl, rfl, hi, hg⟩ := hrel
    by_cases hin : i < n
    · have hc := HA.out i (by omega)
      clear HA
      obtain ⟨x, hx⟩ : ∃ x, x = l[i].toNat := ⟨_, rfl⟩
      have hx256 : x < 256 := hx ▸ l[i].toNat_lt
      have hs := deB_take_succ (show i < l.length by omega)
      rw [← hx] at hc hs
      have hor := shl8_or a x i (by rw [hg.out]; exact deB_take_lt l i) (by omega) hx256
      obtain ⟨y, hy⟩ : ∃ y, y = a * 256 + x := ⟨_, rfl⟩
      rw [← hy] at hor
      have HY := Lib.hid (show y = deB (l.take (i + 1)) by rw [hs, ← hg.out]; exact hy)
      clear hs hy hx
      go_wp2_with fail
      go_round
      case rel => exact ⟨i + 1, y, by go_num, rfl, by omega, HY⟩
      case measure => simp [intOf]; omega
    · obtain rfl : i = n := by omega
      have hcut := Lib.hid (Bs.cut HR.out hk)
      go_wp2_with (at_builtin; go_loud (refine wpList_append_bs _ rfl (.tmp 35) (.tmp 38) elemU8 rfl (Ob.made _ _ w.heap.size (by simp) (by simp)) (Sl.alloc1 hcut.out _) rfl rfl (by simp; omega) (by simp) ?_); intro A1 k1 c1 w1 hown1 hg1 hat1)
      all_goals
        go_ret3
        have ha := hg.out
        rw [← ha]
        exact ⟨A1, k1, c1, rfl, by simpa using hown1, below_grown_own ((Below.refl _ _).alloc (Nat.le_refl _) _) (Ob.made _ _ w.heap.size (by simp) (by simp)) hg1 (by simp)⟩

end Go.Proofs.YtpmndmgfoiagnaaDoor
