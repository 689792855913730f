/- What the proof of WalPlays needs, part 5. -/
import Derived.Test.YtojlldalhhibmaaGreatDoorWalPlaysJ4
import Derived.Deep.RegionWith
import Derived.Laws.Rows
import Derived.Deep.RegionLaw
import Derived.BigQuiet
import Derived.Deep.QuietTactic
import Derived.Deep.RegionHeld3

namespace Go.Proofs.YtojlldalhhibmaaGreatDoor
open Go Go.RowKit
set_option linter.unusedVariables false

def GetVarPost (l : List UInt8) (w : World) (e : Ending) (w' : World) : Prop :=
  (∀ x n, getVarB l = .ok (x, n) → ∃ A k c, e = .returned (.tuple #[.int .u64 (x : Int), .slice A k c, .int .i64 0]) ∧ Ob 5 w' w.heap.size (.slice A k c) (l.drop n) ∧ Below w.heap.size w w') ∧
  (∀ er, getVarB l = .error er → e = .returned (.tuple #[.int .u64 0, .slice none 0 0, .int .i64 (er : Int)]) ∧ Below w.heap.size w w')

/-- One round of the reading: the byte that stands at i. -/
theorem getV_at {l : List UInt8} {i a : Nat} (h : i < l.length) {r : Except Nat (Nat × Nat)} (hg : getV i a (l.drop i) = r) :
    (if (i = 9 ∧ 1 < l[i].toNat) ∨ (0 < i ∧ l[i].toNat = 0) then .error 12 else if l[i].toNat < 128 then .ok (a + l[i].toNat * 128 ^ i, i + 1) else getV (i + 1) (a + (l[i].toNat % 128) * 128 ^ i) (l.drop (i + 1))) = r := by
  rw [← hg, List.drop_eq_getElem_cons h, getV]
theorem getV_end {l : List UInt8} {i a : Nat} (h : ¬ i < l.length) {r : Except Nat (Nat × Nat)} (hg : getV i a (l.drop i) = r) : r = .error 10 := by
  rw [← hg, List.drop_eq_nil_of_le (by omega), getV]
theorem post_err {l : List UInt8} {w : World} {er : Nat} (h : getVarB l = .error er) : GetVarPost l w (.returned (.tuple #[.int .u64 0, .slice none 0 0, .int .i64 (er : Int)])) w :=
  ⟨fun x n hx => (by rw [h] at hx; cases hx), fun er' h' => by rw [h] at h'; cases h'; exact ⟨rfl, Below.refl _ _⟩⟩
theorem post_okv {l : List UInt8} {w w' : World} {x n : Nat} (h : getVarB l = .ok (x, n)) {A : Option Addr} {k c : Nat} (hown : Ob 5 w' w.heap.size (.slice A k c) (l.drop n)) (hb : Below w.heap.size w w') :
    GetVarPost l w (.returned (.tuple #[.int .u64 (x : Int), .slice A k c, .int .i64 0])) w' :=
  ⟨fun x' n' hx => (by rw [h] at hx; cases hx; exact ⟨A, k, c, rfl, hown, hb⟩), fun er' h' => by rw [h] at h'; cases h'⟩

set_option maxHeartbeats 1000000 in
set_option maxRecDepth 100000 in
theorem getVar_any (S : Nat → Prop) (v0 : Value) (l : List UInt8) (w : World) (hl : l.length ≤ 1099511627776) (hr : Bs S w v0 l) :
    Calls Tryz.prog 97 #[v0] w (GetVarPost l w) := by
  have HR := Lib.hid hr
  obtain ⟨A, c, rfl, hlc, hcm, hA0, hA⟩ := hr.at
  have HA := Lib.hid hA
  clear hA hr
  go_enter Tryz.func97, Tryz.ntmps97
  go_wp2_with fail
  go_loop [5, 10] (fun av iv => ∃ (i a : Nat), iv = .int .i64 (i : Int) ∧ av = .int .u64 (a : Int) ∧ i ≤ l.length ∧ i ≤ 9 ∧ Hid (a < 128 ^ i) ∧ Hid (getV i a (l.drop i) = getVarB l)) (fun _ iv => l.length - (intOf iv).toNat)
  case atStart => exact ⟨0, 0, rfl, rfl, by omega, by omega, by simp [Hid], by simp [getVarB, Hid]⟩
  case round =>
    obtain ⟨i, a, rfl, rfl, hi, hi9, HA2, hg⟩ := hrel
    by_cases hil : i < l.length
    · obtain ⟨b, o, rfl, _, hcell⟩ := HA.out (by omega)
      have hc := hcell i hil
      clear hcell HA
      have HG := Lib.hid (getV_at hil hg.out)
      clear hg
      obtain ⟨x, hx⟩ : ∃ x, x = l[i].toNat := ⟨_, rfl⟩
      have hx256 : x < 256 := hx ▸ l[i].toNat_lt
      rw [← hx] at hc HG
      clear hx
      by_cases h1 : i = 9 ∧ 1 < x
      · have t1 : ((i : Int) == 9) = true := by simp; omega
        have t2 : (1 : Int) < (x : Int) := by omega
        have H1 := Lib.hid h1
        clear h1
        go_wp2_with fail
        go_ret3
        refine post_err ?_
        have h := HG.out
        rw [if_pos (.inl H1.out)] at h
        exact h.symm
      · by_cases h2 : 0 < i ∧ x = 0
        · have t1 : ((i : Int) == 9) = false ∨ ((i : Int) == 9) = true := by cases ((i : Int) == 9) <;> simp
          have t2 : ((x : Int) == 0) = true := by simp; omega
          have t3 : ¬ (1 : Int) < (x : Int) := by omega
          have H2 := Lib.hid h2
          have t0 : (0 : Int) < (i : Int) := by omega
          clear h2
          rcases t1 with t1 | t1
          all_goals
            go_wp2_with fail
            go_ret3
            refine post_err ?_
            have h := HG.out
            rw [if_pos (.inr H2.out)] at h
            exact h.symm
        · by_cases h3 : x < 128
          · have hok : getVarB l = .ok (a + x * 128 ^ i, i + 1) := by
              have h := HG.out
              rw [if_neg (by omega), if_pos h3] at h
              exact h.symm
            have hb := (getVarB_bound hok).1
            have hor := shl_or a x i HA2.out (by omega) (by omega)
            obtain ⟨y, hy⟩ : ∃ y, y = a + x * 128 ^ i := ⟨_, rfl⟩
            rw [← hy] at hor hok
            have HO := Lib.hid hok
            clear hok hb hy
            have tx : ((x : Int) < 128) := by omega
            have hdr : l.length - (i + 1) ≤ l.length := by omega
            have hcut := Lib.hid (Bs.cut HR.out (show i + 1 ≤ l.length from hil))
            by_cases h9 : i = 9
            case' pos =>
              have t1 : ((i : Int) == 9) = true := by simp; omega
              have t3 : ¬ (1 : Int) < (x : Int) := by omega
              have t0 : (0 : Int) < (i : Int) := by omega
              have t2 : ((x : Int) == 0) = false := by simp; omega
              clear h9 h1 h2
            case' neg =>
              have t1 : ((i : Int) == 9) = false := by simp; omega
              clear h9
              by_cases h0 : 0 < i
              case' pos =>
                have t0 : (0 : Int) < (i : Int) := by omega
                have t2 : ((x : Int) == 0) = false := by simp; omega
              case' neg =>
                have t0 : ¬ (0 : Int) < (i : Int) := by omega
            all_goals
              try clear h1 h2
              go_wp2_with (at_builtin; go_loud (refine wpList_append_bs _ rfl (.tmp 50) (.tmp 54) elemU8 rfl (Ob.made _ _ w.heap.size (by simp) (by simp)) (Sl.alloc1 hcut.out _) rfl rfl (by simp; omega) (by simp) ?_); intro A1 k1 c1 w1 hown1 hg1 hat1)
              all_goals
                go_ret3
                exact post_okv HO.out (by simpa using hown1) (below_grown_own ((Below.refl _ _).alloc (Nat.le_refl _) _) (Ob.made _ _ w.heap.size (by simp) (by simp)) hg1 (by simp))
          · have hlow : x % 128 < 128 := by omega
            have hne : ¬ i = 9 := by omega
            have hst : getV (i + 1) (a + x % 128 * 128 ^ i) (l.drop (i + 1)) = getVarB l := by
              have h := HG.out
              rw [if_neg (by omega), if_neg h3] at h
              exact h
            have hp : a + x % 128 * 128 ^ i < 128 ^ (i + 1) := by
              have h1 : x % 128 * 128 ^ i ≤ 127 * 128 ^ i := Nat.mul_le_mul_right _ (by omega)
              have := HA2.out
              rw [Nat.pow_succ]; omega
            have h8 : (128 : Nat) ^ (i + 1) ≤ 128 ^ 9 := Nat.pow_le_pow_right (by omega) (by omega)
            have hand := and127 x hx256
            have hor := shl_or a (x % 128) i HA2.out (by unfold U64; omega) (by unfold U64; omega)
            obtain ⟨q, hq⟩ : ∃ q, q = x % 128 := ⟨_, rfl⟩
            rw [← hq] at hor hand hst hp hlow
            obtain ⟨y, hy⟩ : ∃ y, y = a + q * 128 ^ i := ⟨_, rfl⟩
            rw [← hy] at hor hst hp
            have t1 : ((i : Int) == 9) = false := by simp; omega
            have tx : ¬ ((x : Int) < 128) := by omega
            have t2 : ((x : Int) == 0) = false := by simp; omega
            have HS := Lib.hid hst
            have HP := Lib.hid hp
            clear hst hp hy hq h8 h1 h2 HG HA2
            by_cases h0 : 0 < i
            all_goals
              go_wp2_with fail
              go_round
              case rel => exact ⟨i + 1, y, by go_num, rfl, by omega, by omega, HP, HS⟩
              case measure => simp [intOf]; omega
    · have h := getV_end hil hg.out
      have HO := Lib.hid h
      clear h hg
      go_wp2_with fail
      go_ret3
      exact post_err HO.out

set_option maxHeartbeats 400000 in
theorem get_range (v0 : Value) (n : Int) (w : World) (hn : n < 1 ∨ 8 < n) :
    Calls Tryz.prog 66 #[v0, .int .i64 n] w fun e w' => e = .returned (.tuple #[.int .u64 0, .slice none 0 0, .int .i64 11]) ∧ w = w' := by
  rcases hn with hn | hn
  · go_enter Tryz.func66, Tryz.ntmps66
    go_wp2
    go_ret3
    exact ⟨rfl, rfl⟩
  · have h1 : ¬ n < 1 := by omega
    go_enter Tryz.func66, Tryz.ntmps66
    go_wp2
    go_ret3
    exact ⟨rfl, rfl⟩

set_option maxHeartbeats 400000 in
theorem get_short (A : Option Addr) (k c n : Nat) (w : World) (hn : 1 ≤ n) (hn8 : n ≤ 8) (hk : k < n) :
    Calls Tryz.prog 66 #[.slice A k c, .int .i64 n] w fun e w' => e = .returned (.tuple #[.int .u64 0, .slice none 0 0, .int .i64 10]) ∧ w = w' := by
  have h1 : ¬ (n : Int) < 1 := by omega
  have h2 : ¬ 8 < (n : Int) := by omega
  go_enter Tryz.func66, Tryz.ntmps66
  go_wp2
  go_ret3
  exact ⟨rfl, rfl⟩

set_option maxHeartbeats 1000000 in
set_option maxRecDepth 100000 in
theorem get_ok (S : Nat → Prop) (v0 : Value) (l : List UInt8) (n : Nat) (w : World) (hn : 1 ≤ n) (hn8 : n ≤ 8) (hk : n ≤ l.length) (hl : l.length ≤ 1099511627776) (hr : Bs S w v0 l) :
    Calls Tryz.prog 66 #[v0, .int .i64 n] w fun e w' => ∃ A k c, e = .returned (.tuple #[.int .u64 (deB (l.take n) : Int), .slice A k c, .int .i64 0]) ∧ Ob 5 w' w.heap.size (.slice A k c) (l.drop n) ∧ Below w.heap.size w w' := by
  have h1 : ¬ (n : Int) < 1 := by omega
  have h2 : ¬ 8 < (n : Int) := by omega
  have HR := Lib.hid hr
  obtain ⟨A, c, rfl, hlc, hcm, hA0, hA⟩ := hr.at
  obtain ⟨b, o, rfl, _, hcell⟩ := hA (by omega)
  have HA := Lib.hid hcell
  clear hA hr hcell
  go_enter Tryz.func66, Tryz.ntmps66
  go_wp2_with fail
  go_loop [7, 22] (fun av iv => ∃ (i a : Nat), iv = .int .i64 (i : Int) ∧ av = .int .u64 (a : Int) ∧ i ≤ n ∧ Hid (a = deB (l.take i))) (fun _ iv => n - (intOf iv).toNat)
  case atStart => exact ⟨0, 0, rfl, rfl, by omega, by simp [Hid, deB]⟩
  case round =>
    obtain ⟨i, a, rfl, rfl, hi, hg⟩ := hrel
    by_cases hin : i < n
    · have hc := HA.out i (by omega)
      clear HA
      obtain ⟨x, hx⟩ : ∃ x, x = l[i].toNat := ⟨_, rfl⟩
      have hx256 : x < 256 := hx ▸ l[i].toNat_lt
      have hs := deB_take_succ (show i < l.length by omega)
      rw [← hx] at hc hs
      have hor := shl8_or a x i (by rw [hg.out]; exact deB_take_lt l i) (by omega) hx256
      obtain ⟨y, hy⟩ : ∃ y, y = a * 256 + x := ⟨_, rfl⟩
      rw [← hy] at hor
      have HY := Lib.hid (show y = deB (l.take (i + 1)) by rw [hs, ← hg.out]; exact hy)
      clear hs hy hx
      go_wp2_with fail
      go_round
      case rel => exact ⟨i + 1, y, by go_num, rfl, by omega, HY⟩
      case measure => simp [intOf]; omega
    · obtain rfl : i = n := by omega
      have hcut := Lib.hid (Bs.cut HR.out hk)
      go_wp2_with (at_builtin; go_loud (refine wpList_append_bs _ rfl (.tmp 35) (.tmp 38) elemU8 rfl (Ob.made _ _ w.heap.size (by simp) (by simp)) (Sl.alloc1 hcut.out _) rfl rfl (by simp; omega) (by simp) ?_); intro A1 k1 c1 w1 hown1 hg1 hat1)
      all_goals
        go_ret3
        have ha := hg.out
        rw [← ha]
        exact ⟨A1, k1, c1, rfl, by simpa using hown1, below_grown_own ((Below.refl _ _).alloc (Nat.le_refl _) _) (Ob.made _ _ w.heap.size (by simp) (by simp)) hg1 (by simp)⟩

end Go.Proofs.YtojlldalhhibmaaGreatDoor

namespace Go.Proofs.YtojlldalhhibmaaGreatDoor
open Go Go.RowKit
set_option linter.unusedVariables false

theorem open_iff (l : List UInt8) (h : 4 ≤ l.length) : (l.take (l.length - 4) ++ beB (sumOf (l.take (l.length - 4))).toNat 4 = l) ↔ deB ((l.drop (l.length - 4)).take 4) = (sumOf (l.take (l.length - 4))).toNat := by
  have hd : (l.drop (l.length - 4)).length = 4 := by rw [List.length_drop]; omega
  have ht : (l.drop (l.length - 4)).take 4 = l.drop (l.length - 4) := List.take_of_length_le (by omega)
  rw [ht]
  constructor
  · intro he
    have : l.drop (l.length - 4) = beB (sumOf (l.take (l.length - 4))).toNat 4 := by
      have h2 : l.take (l.length - 4) ++ beB (sumOf (l.take (l.length - 4))).toNat 4 = l.take (l.length - 4) ++ l.drop (l.length - 4) := by rw [he, List.take_append_drop]
      exact (List.append_cancel_left h2).symm
    rw [this, deB_beB 4 _ (sum4 _)]
  · intro he
    have := beB_deB (l.drop (l.length - 4))
    rw [hd] at this
    rw [← he, this, List.take_append_drop]

def OpenPost (l : List UInt8) (w : World) (e : Ending) (w' : World) : Prop :=
  (∀ b, openB l = .ok b → ∃ A k c, e = .returned (.tuple #[.slice A k c, .int .i64 0]) ∧ Ob 5 w' w.heap.size (.slice A k c) b) ∧
  (∀ er, openB l = .error er → e = .returned (.tuple #[.slice none 0 0, .int .i64 (er : Int)])) ∧ Below w.heap.size w w'

set_option maxHeartbeats 1000000 in
set_option maxRecDepth 100000 in
theorem open_any (S : Nat → Prop) (v0 : Value) (l : List UInt8) (w : World) (hl : l.length ≤ 1099511627776) (hr : Bs S w v0 l) :
    Calls Tryz.prog 67 #[v0] w (OpenPost l w) := by
  have HR := Lib.hid hr
  have HR2 : Hid (Bs (fun b => b < w.heap.size) w v0 l) := (Sl.lt hr (by omega)).more (fun _ h => h.2)
  obtain ⟨A, c, rfl, hlc, hcm, hA0, hA⟩ := hr.at
  by_cases h4 : l.length < 4
  · clear hA hr hA0
    have HO : Hid (openB l = .error 20) := by unfold openB; rw [if_pos h4]; rfl
    go_enter Tryz.func67, Tryz.ntmps67
    go_wp2_with fail
    go_ret2
    exact ⟨fun b hb => (by rw [HO.out] at hb; cases hb), fun er her => (by rw [HO.out] at her; cases her; rfl), Below.refl _ _⟩
  · obtain ⟨b, o, rfl, _, _⟩ := hA (by omega)
    clear hA hA0
    have h4' : 4 ≤ l.length := by omega
    have HI := Lib.hid (open_iff l h4')
    have hn4 : (l.drop (l.length - 4)).length = 4 := by rw [List.length_drop]; omega
    have hc1 := Bs.pre hr (Nat.sub_le l.length 4)
    have HC1 := Lib.hid hc1
    have hc2 : Bs (fun b => b < w.heap.size) w (.slice (some ⟨b, o + (l.length - 4), none⟩) 4 (c - (l.length - 4))) (l.drop (l.length - 4)) := by
      have h := Bs.cut HR2.out (Nat.sub_le l.length 4)
      rw [if_neg (by omega), show l.length - (l.length - 4) = 4 from by omega] at h
      exact h
    have HC2 := Lib.hid hc2
    have e4 : l.length - (l.length - 4) = 4 := by omega
    have E4 := Lib.hid e4
    have hlt : (l.take (l.length - 4)).length = l.length - 4 := by rw [List.length_take]; omega
    have HLT := Lib.hid hlt
    have HO : Hid (openB l = if l.take (l.length - 4) ++ beB (sumOf (l.take (l.length - 4))).toNat 4 = l then .ok (l.take (l.length - 4)) else .error 21) := by unfold openB; rw [if_neg h4]; rfl
    have hne : ¬ c = l.length - 4 := by omega
    have HN4 := Lib.hid hn4
    clear hr hc1 hc2 h4 e4 hlt hn4
    go_enter Tryz.func67, Tryz.ntmps67
    go_wp2_with (at_builtin; go_loud (refine wpList_append_bs _ rfl (.tmp 11) (.tmp 16) elemU8 rfl (Ob.made _ _ w.heap.size (Nat.le_refl _) (by simp)) (Sl.alloc1 HC1.out _) rfl rfl (by rw [HLT.out]; simp; omega) (by simp) ?_); intro A1 k1 c1 w1 hown1 hg1 hat1)
    have hbl1 : Below w.heap.size w w1 := below_grown_own ((Below.refl _ _).alloc (Nat.le_refl _) _) (Ob.made _ _ w.heap.size (Nat.le_refl _) (by simp)) hg1 (by simp)
    have hs1 := hbl1.size
    have hown1' : Ob 5 w1 w.heap.size (.slice A1 k1 c1) (l.take (l.length - 4)) := hown1
    have HR1 : Hid (Bs (fun b => b < w.heap.size) w1 _ _) := Sl.below HC2.out hbl1 (fun _ h => h)
    have HW1 := Lib.hid hown1'
    clear hown1 hg1 hat1 hown1'
    rw [E4.out]
    refine (get_ok _ _ (l.drop (l.length - 4)) 4 w1 (by omega) (by omega) (by rw [HN4.out]; omega) (by rw [HN4.out]; omega) HR1.out).mono ?_
    rintro e w2 ⟨A2, k2, c2, rfl, _, hbl2⟩
    have HW2 := Lib.hid (HW1.out.later hbl2)
    have hbl2' := hbl1.trans (hbl2.mono hs1)
    clear hbl2 hbl1
    go_wp2_with fail
    refine (of_any _ _ (l.take (l.length - 4)) w2 (by rw [HLT.out]; omega) HW2.out.bs).mono ?_
    rintro e w3 ⟨rfl, hbl3⟩
    have HW3 := Lib.hid (HW2.out.later hbl3)
    have hbl3' := hbl2'.trans (hbl3.mono hbl2'.size)
    clear hbl3 hbl2'
    by_cases hd : deB ((l.drop (l.length - 4)).take 4) = (sumOf (l.take (l.length - 4))).toNat
    · have HO2 : Hid (openB l = .ok (l.take (l.length - 4))) := by rw [Hid, HO.out, if_pos (HI.out.2 hd)]
      have HD := Lib.hid hd
      rw [hd]
      clear hd
      go_wp2_with fail
      go_ret2
      exact ⟨fun b hb => (by rw [HO2.out] at hb; cases hb; exact ⟨A1, k1, c1, rfl, HW3.out⟩), fun er her => (by rw [HO2.out] at her; cases her), hbl3'⟩
    · have HO2 : Hid (openB l = .error 21) := by rw [Hid, HO.out, if_neg (fun h => hd (HI.out.1 h))]
      generalize deB ((l.drop (l.length - 4)).take 4) = dv at *
      have t1 : ((dv : Int) == ((sumOf (l.take (l.length - 4))).toNat : Int)) = false := by rw [beq_eq_false_iff_ne]; omega
      have t2 : ((dv : Int) != ((sumOf (l.take (l.length - 4))).toNat : Int)) = true := by rw [bne_iff_ne]; omega
      clear hd HI
      go_wp2_with fail
      go_ret2
      exact ⟨fun b hb => (by rw [HO2.out] at hb; cases hb), fun er her => (by rw [HO2.out] at her; cases her; rfl), hbl3'⟩

theorem ex_sum9 : sumOf [49, 50, 51, 52, 53, 54, 55, 56, 57] = 0xfc891918#32 := by decide +kernel
theorem ex_sum0 : sumOf [] = 0#32 := by decide +kernel
theorem ex_more : sumMore (sumOf [49, 50]) [51, 52, 53, 54, 55, 56, 57] = 0xfc891918#32 := by decide +kernel
theorem openB_seal (l : List UInt8) : openB (l ++ beB (sumOf l).toNat 4) = .ok l := by
  have hl : (l ++ beB (sumOf l).toNat 4).length - 4 = l.length := by rw [List.length_append, beB_length]; omega
  unfold openB
  rw [hl, List.take_left, if_neg (by rw [List.length_append, beB_length]; omega), if_pos rfl]

end Go.Proofs.YtojlldalhhibmaaGreatDoor

namespace Go.Proofs.YtojlldalhhibmaaGreatDoor
open Go Go.RowKit
set_option linter.unusedVariables false

/-- A record's two cells; a record by value. -/
def recC (r : Nat × List UInt8) : Array Value := #[.int .u64 (r.1 : Int), .string (st r.2)]
def recV (r : Nat × List UInt8) : Value := .agg #[.int .u64 (r.1 : Int), .string (st r.2)]

set_option maxHeartbeats 1000000 in
set_option maxRecDepth 100000 in
theorem fields_any (q : Nat) (t : List UInt8) (w : World) (hq : q < U64) (ht : t.length ≤ 65536) :
    Calls Tryz.prog 62 #[.agg #[.int .u64 (q : Int), .string (st t)]] w fun e w' => ∃ A k c, e = .returned (.slice A k c) ∧ Ob 5 w' w.heap.size (.slice A k c) (recF q t) ∧ Below w.heap.size w w' := by
  have hb0 := Blk.new w 71 #[.int .u64 (q : Int), .string (st t)]
  have HQ := Lib.hid hq
  go_enter Tryz.func62, Tryz.ntmps62
  go_wp2_with fail
  refine (write_any _).mono ?_
  rintro e w1 ⟨rfl, hw1, hbl1, hsz1⟩
  have hb1 := hb0.later hbl1
  have q1 : Below w.heap.size w w1 := ((Below.refl w.heap.size w).alloc (Nat.le_refl _) _).trans (hbl1.mono (by simp))
  generalize hG : (w.alloc (.cells #[.int .u64 (q : Int), .string (st t)] 71)).heap.size = G at *
  have hG' : w.heap.size < G := by rw [← hG]; simp
  have hG1 : G < w1.heap.size := by omega
  have HW1 := Lib.hid hw1
  have d0 : w1.cell? ⟨w.heap.size, 0, none⟩ = some (.int .u64 (q : Int)) := hb1.cell 0
  clear hw1 hb0 hq hG hbl1 hsz1
  go_wp2_with fail
  refine (wnum_new G G G [] [q] _ _ (HW1.out.alloc _) (by simp; omega) (fun _ => Nat.le_refl _) (by simp; omega) (by intro y hy; simp at hy; subst hy; exact HQ.out) (by simp) (Sl.new1 w1 _ _ (by simp) ⟨by omega, by simp⟩)).mono ?_
  rintro e w2 ⟨rfl, hw2, hg2⟩
  simp only [List.flatMap_cons, List.flatMap_nil, List.append_nil, List.nil_append] at hw2
  have hb2 := (hb1.alloc (.cells #[.int .u64 (q : Int)] 24)).grown hg2 (by simp; omega)
  have q2 : Below w.heap.size w w2 := (q1.alloc (by omega) _).trans (grown_below hg2 (by omega) (by simp; omega))
  have hs2 := q2.size
  have hg2s : w1.heap.size + 1 ≤ w2.heap.size := by have := hg2.size; simpa using this
  have HW2 := Lib.hid hw2
  have hv10 := varB_le10 HQ.out
  have d1 : w2.cell? ⟨w.heap.size, 1, none⟩ = some (.string (st t)) := hb2.cell 1
  clear hw2 hb1 hg2 HW1 d0
  go_wp2_with fail
  refine (wtext_any G G (varB q) [t] _ _ (HW2.out.alloc _) (by simp; omega) (Nat.le_refl _) (by intro y hy; simp at hy; subst hy; exact ht) (by simp; omega) (Sl.new1 w2 _ _ (by simp) ⟨by omega, by simp⟩)).mono ?_
  rintro e w3 ⟨rfl, hw3, hg3⟩
  simp only [List.flatMap_cons, List.flatMap_nil, List.append_nil] at hw3
  have q3 : Below w.heap.size w w3 := (q2.alloc (by omega) _).trans (grown_below hg3 (by omega) (by simp; omega))
  have hs3 := q3.size
  have HW3 : Hid (Wr w3 G G (recF q t)) := hw3
  have hl3 := textB_len ht
  clear hw3 hb2 hg3 HW2 d1
  go_wp2_with fail
  refine (wbytes_any G G (recF q t) w3 HW3.out (by unfold recF; unfold textB at hl3; rw [List.length_append]; omega)).mono ?_
  rintro e w4 ⟨A4, k4, c4, rfl, hown4, hbl4⟩
  go_wp2_with fail
  go_ret
  exact ⟨A4, k4, c4, rfl, hown4.lower hs3, q3.trans (hbl4.mono hs3)⟩

/-- What record.Put gives: the bytes, or what is wrong. -/
def RPutPost (q : Nat) (t : List UInt8) (w : World) (e : Ending) (w' : World) : Prop :=
  (t.length ≤ 32768 → ∃ A k c, e = .returned (.tuple #[.slice A k c, .int .i64 0]) ∧ Ob 5 w' w.heap.size (.slice A k c) (recB q t)) ∧
  (32768 < t.length → e = .returned (.tuple #[.slice none 0 0, .int .i64 70])) ∧ Below w.heap.size w w'

set_option maxHeartbeats 1000000 in
set_option maxRecDepth 100000 in
theorem rput_any (q : Nat) (t : List UInt8) (w : World) (hq : q < U64) (hb : BitsOk w) (ht : t.length ≤ 1099511627776) :
    Calls Tryz.prog 36 #[.agg #[.int .u64 (q : Int), .string (st t)]] w (RPutPost q t w) := by
  have hb0 := Blk.new w 71 #[.int .u64 (q : Int), .string (st t)]
  have HQ := Lib.hid hq
  have d1 : (w.alloc (.cells #[.int .u64 (q : Int), .string (st t)] 71)).cell? ⟨w.heap.size, 1, none⟩ = some (.string (st t)) := hb0.cell 1
  have q0 : Below w.heap.size w (w.alloc (.cells #[.int .u64 (q : Int), .string (st t)] 71)) := (Below.refl _ _).alloc (Nat.le_refl _) _
  by_cases hl : 32768 < t.length
  · go_enter Tryz.func36, Tryz.ntmps36
    go_wp2_with fail
    go_ret2
    exact ⟨fun h => (by omega), fun _ => rfl, q0⟩
  · have hb' := Lib.hid (hb.later q0)
    have hF := Lib.hid (recF_len HQ.out (show t.length ≤ 32768 by omega))
    clear hb
    have c0 : (w.alloc (.cells #[.int .u64 (q : Int), .string (st t)] 71)).cell? ⟨w.heap.size, 0, none⟩ = some (.int .u64 (q : Int)) := hb0.cell 0
    go_enter Tryz.func36, Tryz.ntmps36
    go_wp2_with fail
    refine (fields_any q t _ HQ.out (by omega)).mono ?_
    rintro e w1 ⟨A1, k1, c1, rfl, hown1, hbl1⟩
    have HO1 := Lib.hid hown1
    have HB1 := Lib.hid (hb'.out.later hbl1)
    have q1 := q0.trans (hbl1.mono q0.size)
    have hs1 := q1.size
    clear hown1 hbl1
    go_wp2_with fail
    refine (seal_any _ _ (recF q t) w1 HB1.out (by have := hF.out; omega) HO1.out.bs).mono ?_
    rintro e w2 ⟨A2, k2, c2, rfl, hown2, hbl2⟩
    obtain rfl := hown2.len
    have HO2 : Hid (Ob 5 w2 w1.heap.size (.slice A2 (recS q t).length c2) (recS q t)) := hown2
    have HB2 := Lib.hid (HB1.out.later hbl2)
    have q2 := q1.trans (hbl2.mono hs1)
    have hs2 := q2.size
    have HL : (recS q t).length ≤ 32804 := by rw [recS_len]; have := hF.out; omega
    have hwr : IntKind.u64.wrap ((recS q t).length : Int) = ((recS q t).length : Int) := wrap_u64 (by omega) (by unfold U64; omega)
    rw [show recF q t ++ beB (sumOf (recF q t)).toNat 4 = recS q t from rfl]
    clear hown2 hbl2 HO1 HB1
    have HR : Hid (beB (recS q t).length 4 ++ recS q t = recB q t) := rfl
    generalize recS q t = sl at *
    go_wp2_with fail
    refine (put_ok (fun _ => True) _ [] sl.length 4 w2 (by omega) (by omega) (by unfold U64; omega) (fun _ => by omega) HB2.out (by simp) (Bs.nilv _ _)).mono ?_
    rintro e w3 ⟨A3, k3, c3, rfl, hown3, hbl3⟩
    rw [List.nil_append] at hown3
    have HO3 := Lib.hid (HO2.out.later hbl3)
    have q3 := q2.trans (hbl3.mono hs2)
    have hs3 := hbl3.size
    clear hbl3
    go_wp2_with (at_builtin; go_loud (refine wpList_append_bs _ rfl (.tmp 21) (.tmp 22) elemU8 rfl hown3 HO3.out.bs rfl rfl (by rw [beB_length]; omega) hs3 ?_); intro A4 k4 c4 w4 hown4 hg4 hat4)
    go_ret2
    rw [HR.out] at hown4
    exact ⟨fun _ => ⟨A4, k4, c4, rfl, hown4.lower hs2⟩, fun h => (by omega), q3.grown hg4 (by omega) (fun k hk => by have := (hown3.lt k hk).1; omega)⟩

end Go.Proofs.YtojlldalhhibmaaGreatDoor

namespace Go.Proofs.YtojlldalhhibmaaGreatDoor
open Go Go.RowKit
set_option linter.unusedVariables false

/-- A reader: what hasn't been taken yet, what went wrong first. -/
def Rd (w : World) (g B : Nat) (l : List UInt8) (err : Nat) : Prop := ∃ A k c, Blk w g 169 #[.slice A k c, .int .i64 (err : Int)] ∧ Ub w B (.slice A k c) l
theorem Rd.later {w w' : World} {g B : Nat} {l : List UInt8} {err : Nat} (h : Rd w g B l err) (hb : Below w.heap.size w w') : Rd w' g B l err := by
  obtain ⟨A, k, c, h1, h2⟩ := h
  exact ⟨A, k, c, h1.later hb, h2.later hb⟩
theorem Rd.lower {w : World} {g B B' : Nat} {l : List UInt8} {err : Nat} (h : Rd w g B l err) (hB : B' ≤ B) : Rd w g B' l err := by
  obtain ⟨A, k, c, h1, h2⟩ := h
  exact ⟨A, k, c, h1, h2.lower hB⟩
theorem Rd.lt {w : World} {g B : Nat} {l : List UInt8} {err : Nat} (h : Rd w g B l err) : g < w.heap.size := by
  obtain ⟨A, k, c, h1, h2⟩ := h
  exact h1.lt
/-- A block of another type is written. -/
theorem Rd.far {w : World} {g B : Nat} {l : List UInt8} {err : Nat} (h : Rd w g B l err) {g' : Nat} {t : TypeId} {cs : Array Value} (hb : Blk w g' t cs) (h1 : t ≠ 169) (h2 : 5 ≠ t) (i : Nat) (u : Value) : Rd (w.setCell ⟨g', i, none⟩ u) g B l err := by
  obtain ⟨A, k, c, h3, h4⟩ := h
  exact ⟨A, k, c, h3.far (p := ⟨g', i, none⟩) (fun e => Blk.ne h3 hb (fun h => h1 h.symm) e) _, h4.beside hb h2 (grown_put _ _ _ _)⟩

set_option maxHeartbeats 1000000 in
theorem read_any (S : Nat → Prop) (v0 : Value) (l : List UInt8) (w : World) (hl : l.length ≤ 1099511627776) (hr : Bs S w v0 l) :
    Calls Tryz.prog 68 #[v0] w fun e w' => ∃ g, e = .returned (.pointer (some ⟨g, 0, none⟩)) ∧ w.heap.size ≤ g ∧ Rd w' g w.heap.size l 0 ∧ Below w.heap.size w w' := by
  have HR := Lib.hid hr
  obtain ⟨A, c, rfl, hlc, hcm, hA0, hA⟩ := hr.at
  clear hA hr hA0
  go_enter Tryz.func68, Tryz.ntmps68
  go_wp2_with (at_builtin; (refine wpList_append_bs _ rfl (.tmp 3) (.tmp 4) elemU8 rfl (Ob.made _ _ w.heap.size (Nat.le_refl _) (by simp)) (Sl.alloc1 HR.out _) rfl rfl (by simp; omega) (by simp) ?_); intro A1 k1 c1 w1 hown1 hg1 hat1)
  have hbl1 : Below w.heap.size w w1 := below_grown_own ((Below.refl _ _).alloc (Nat.le_refl _) _) (Ob.made _ _ w.heap.size (Nat.le_refl _) (by simp)) hg1 (by simp)
  have hs1 := hbl1.size
  go_ret
  refine ⟨w1.heap.size, rfl, hs1, ⟨A1, k1, c1, Blk.new _ _ _, ?_⟩, hbl1.alloc hs1 _⟩
  exact (Ub.of_own (by simpa using hown1)).later ((Below.refl _ _).alloc (Nat.le_refl _) _)

set_option maxHeartbeats 400000 in
theorem fail_any (g B : Nat) (l : List UInt8) (err e0 : Nat) (w : World) (hr : Rd w g B l err) (he : e0 ≤ 1000) (he2 : err ≤ 1000) :
    Calls Tryz.prog 90 #[.pointer (some ⟨g, 0, none⟩), .int .i64 e0] w fun e w' => e = .returned (.bool false) ∧ Rd w' g B l (if err = 0 then e0 else err) ∧ w.grownBy w' (some g) := by
  have HR := Lib.hid hr
  obtain ⟨A, k, c, hb, hown⟩ := hr
  have d1 : w.cell? ⟨g, 1, none⟩ = some (.int .i64 (err : Int)) := hb.cell 1
  have f1 := hb.free 1
  by_cases h0 : err = 0
  · subst h0
    go_enter Tryz.func90, Tryz.ntmps90
    go_wp2_with fail
    go_ret
    exact ⟨rfl, ⟨A, k, c, hb.put 1 _, hown.beside hb (by decide) (grown_put _ _ _ _)⟩, grown_put _ _ _ _⟩
  · have t0 : ((err : Int) == 0) = false := by rw [beq_eq_false_iff_ne]; omega
    go_enter Tryz.func90, Tryz.ntmps90
    go_wp2_with fail
    go_ret
    exact ⟨rfl, HR.out, World.grownBy.refl _ _⟩

def rdErr (e : Nat) : Nat := if e = 10 then 30 else e
theorem getV_errs : ∀ (l : List UInt8) (i v er : Nat), getV i v l = .error er → er = 10 ∨ er = 12
  | [], i, v, er, h => by rw [getV] at h; cases h; exact .inl rfl
  | b :: l, i, v, er, h => by
    rw [getV] at h
    split at h
    · cases h; exact .inr rfl
    · split at h
      · cases h
      · exact getV_errs l _ _ er h
set_option maxHeartbeats 1000000 in
set_option maxRecDepth 100000 in
theorem rtake_old (g B : Nat) (l : List UInt8) (err : Nat) (w : World) (hr : Rd w g B l err) (h0 : err ≠ 0) :
    Calls Tryz.prog 88 #[.pointer (some ⟨g, 0, none⟩)] w fun e w' => e = .returned (.tuple #[.int .u64 0, .slice none 0 0, .bool false]) ∧ w = w' := by
  obtain ⟨A, k, c, hb, hown⟩ := hr
  have d1 : w.cell? ⟨g, 1, none⟩ = some (.int .i64 (err : Int)) := hb.cell 1
  have t0 : ((err : Int) != 0) = true := by rw [bne_iff_ne]; omega
  clear hb hown
  go_enter Tryz.func88, Tryz.ntmps88
  go_wp2_with fail
  go_ret3
  exact ⟨rfl, rfl⟩
set_option maxHeartbeats 1000000 in
set_option maxRecDepth 100000 in
theorem rtake_ok (g B : Nat) (l : List UInt8) (x n : Nat) (w : World) (hr : Rd w g B l 0) (hl : l.length ≤ 1099511627776) (hg : getVarB l = .ok (x, n)) :
    Calls Tryz.prog 88 #[.pointer (some ⟨g, 0, none⟩)] w fun e w' => ∃ A k c, e = .returned (.tuple #[.int .u64 x, .slice A k c, .bool true]) ∧ Ob 5 w' w.heap.size (.slice A k c) (l.drop n) ∧ Below w.heap.size w w' := by
  obtain ⟨A, k, c, hb, hown⟩ := hr
  have d0 : w.cell? ⟨g, 0, none⟩ = some (.slice A k c) := hb.cell 0
  have d1 : w.cell? ⟨g, 1, none⟩ = some (.int .i64 0) := hb.cell 1
  have HO := Lib.hid hown
  clear hb hown
  go_enter Tryz.func88, Tryz.ntmps88
  go_wp2_with fail
  refine (getVar_any _ _ l w hl HO.out.bs).mono ?_
  rintro e w1 ⟨hok, _⟩
  obtain ⟨A1, k1, c1, rfl, hown1, hbl1⟩ := hok x n hg
  clear hok
  go_wp2_with fail
  go_ret3
  exact ⟨A1, k1, c1, rfl, hown1, hbl1⟩
set_option maxHeartbeats 1000000 in
set_option maxRecDepth 100000 in
theorem rtake_err (g B : Nat) (l : List UInt8) (er : Nat) (w : World) (hr : Rd w g B l 0) (hl : l.length ≤ 1099511627776) (hg : getVarB l = .error er) :
    Calls Tryz.prog 88 #[.pointer (some ⟨g, 0, none⟩)] w fun e w' => e = .returned (.tuple #[.int .u64 0, .slice none 0 0, .bool false]) ∧ Rd w' g B l (rdErr er) ∧ w.grownBy w' (some g) := by
  have HR := Lib.hid hr
  obtain ⟨A, k, c, hb, hown⟩ := hr
  have d0 : w.cell? ⟨g, 0, none⟩ = some (.slice A k c) := hb.cell 0
  have d1 : w.cell? ⟨g, 1, none⟩ = some (.int .i64 0) := hb.cell 1
  have HO := Lib.hid hown
  have hcase := getV_errs l 0 0 er hg
  clear hb hown
  rcases hcase with rfl | rfl
  · go_enter Tryz.func88, Tryz.ntmps88
    go_wp2_with fail
    refine (getVar_any _ _ l w hl HO.out.bs).mono ?_
    rintro e w1 ⟨_, herr⟩
    obtain ⟨rfl, hbl1⟩ := herr _ hg
    have HR1 := Lib.hid (HR.out.later hbl1)
    clear herr
    go_wp2_with fail
    refine (fail_any g B l 0 30 w1 HR1.out (by omega) (by omega)).mono ?_
    rintro e w2 ⟨rfl, hr2, hg2⟩
    go_wp2_with fail
    go_ret3
    exact ⟨rfl, hr2, (below_grownBy hbl1 _).trans hg2⟩
  · go_enter Tryz.func88, Tryz.ntmps88
    go_wp2_with fail
    refine (getVar_any _ _ l w hl HO.out.bs).mono ?_
    rintro e w1 ⟨_, herr⟩
    obtain ⟨rfl, hbl1⟩ := herr _ hg
    have HR1 := Lib.hid (HR.out.later hbl1)
    clear herr
    go_wp2_with fail
    refine (fail_any g B l 0 12 w1 HR1.out (by omega) (by omega)).mono ?_
    rintro e w2 ⟨rfl, hr2, hg2⟩
    go_wp2_with fail
    go_ret3
    exact ⟨rfl, hr2, (below_grownBy hbl1 _).trans hg2⟩

/-- What Count takes: the number, the rest, what went wrong. -/
def rdCount (l : List UInt8) (err : Nat) (most : Int) : Nat × List UInt8 × Nat :=
  if err ≠ 0 then (0, l, err) else match getVarB l with
    | .error er => (0, l, rdErr er)
    | .ok (x, n) => if most < (x : Int) then (0, l, 32) else (x, l.drop n, 0)
theorem rdErr_le {l : List UInt8} {er : Nat} (h : getVarB l = .error er) : rdErr er ≤ 1000 ∧ rdErr er ≠ 0 := by
  rcases getV_errs l 0 0 er h with rfl | rfl <;> decide

/-- The function value 'r.take'. -/
def takeFn (g : Nat) : Value := .func (Fn.func 88) #[.pointer (some ⟨g, 0, none⟩)] #[]
set_option maxHeartbeats 1000000 in
set_option maxRecDepth 100000 in
theorem below_ok (g B : Nat) (l : List UInt8) (x n : Nat) (most : Int) (w : World) (hr : Rd w g B l 0) (hl : l.length ≤ 1099511627776) (hg : getVarB l = .ok (x, n)) (hm : most ≤ 9223372036854775807) (hx : (x : Int) ≤ most) :
    Calls Tryz.prog 89 #[.pointer (some ⟨g, 0, none⟩), takeFn g, .int .i64 most] w fun e w' => ∃ A k c, e = .returned (.tuple #[.int .i64 x, .slice A k c, .bool true]) ∧ Ob 5 w' w.heap.size (.slice A k c) (l.drop n) ∧ Below w.heap.size w w' := by
  obtain ⟨m, rfl⟩ : ∃ m : Nat, most = (m : Int) := ⟨most.toNat, by omega⟩
  have hxm : x ≤ m := by omega
  unfold takeFn
  have HT := Lib.hid (rtake_ok g B l x n w hr hl hg)
  clear hr hg
  go_enter Tryz.func89, Tryz.ntmps89
  go_wp2_with fail
  refine HT.out.mono ?_
  rintro e w1 ⟨A1, k1, c1, rfl, hown1, hbl1⟩
  have t0 : decide (m < x) = false := by rw [decide_eq_false_iff_not]; omega
  go_wp2_with fail
  go_ret3
  exact ⟨A1, k1, c1, rfl, hown1, hbl1⟩
set_option maxHeartbeats 1000000 in
set_option maxRecDepth 100000 in
theorem below_big (g B : Nat) (l : List UInt8) (x n : Nat) (most : Int) (w : World) (hr : Rd w g B l 0) (hl : l.length ≤ 1099511627776) (hg : getVarB l = .ok (x, n)) (hm : most ≤ 9223372036854775807) (hm2 : -9223372036854775808 ≤ most) (hx : most < (x : Int)) :
    Calls Tryz.prog 89 #[.pointer (some ⟨g, 0, none⟩), takeFn g, .int .i64 most] w fun e w' => e = .returned (.tuple #[.int .i64 0, .slice none 0 0, .bool false]) ∧ Rd w' g B l 32 ∧ w.grownBy w' (some g) := by
  unfold takeFn
  have HT := Lib.hid (rtake_ok g B l x n w hr hl hg)
  have HR := Lib.hid hr
  have hx64 := (getVarB_bound hg).1
  clear hr hg
  by_cases h0 : most < 0
  · go_enter Tryz.func89, Tryz.ntmps89
    go_wp2_with fail
    refine HT.out.mono ?_
    rintro e w1 ⟨A1, k1, c1, rfl, hown1, hbl1⟩
    have HR1 := Lib.hid (HR.out.later hbl1)
    go_wp2_with fail
    refine (fail_any g B l 0 32 w1 HR1.out (by omega) (by omega)).mono ?_
    rintro e w2 ⟨rfl, hr2, hg2⟩
    go_wp2_with fail
    go_ret3
    exact ⟨rfl, hr2, (below_grownBy hbl1 _).trans hg2⟩
  · obtain ⟨m, rfl⟩ : ∃ m : Nat, most = (m : Int) := ⟨most.toNat, by omega⟩
    have hxm : m < x := by omega
    go_enter Tryz.func89, Tryz.ntmps89
    go_wp2_with fail
    refine HT.out.mono ?_
    rintro e w1 ⟨A1, k1, c1, rfl, hown1, hbl1⟩
    have t0 : decide (m < x) = true := by rw [decide_eq_true_eq]; omega
    have HR1 := Lib.hid (HR.out.later hbl1)
    go_wp2_with fail
    refine (fail_any g B l 0 32 w1 HR1.out (by omega) (by omega)).mono ?_
    rintro e w2 ⟨rfl, hr2, hg2⟩
    go_wp2_with fail
    go_ret3
    exact ⟨rfl, hr2, (below_grownBy hbl1 _).trans hg2⟩
set_option maxHeartbeats 1000000 in
set_option maxRecDepth 100000 in
theorem below_no (g B : Nat) (l : List UInt8) (most : Int) (w : World) (err err' : Nat)
    (ht : Calls Tryz.prog 88 #[.pointer (some ⟨g, 0, none⟩)] w fun e w' => e = .returned (.tuple #[.int .u64 0, .slice none 0 0, .bool false]) ∧ Rd w' g B l err' ∧ w.grownBy w' (some g)) :
    Calls Tryz.prog 89 #[.pointer (some ⟨g, 0, none⟩), takeFn g, .int .i64 most] w fun e w' => e = .returned (.tuple #[.int .i64 0, .slice none 0 0, .bool false]) ∧ Rd w' g B l err' ∧ w.grownBy w' (some g) := by
  unfold takeFn
  have HT := Lib.hid ht
  clear ht
  go_enter Tryz.func89, Tryz.ntmps89
  go_wp2_with fail
  refine HT.out.mono ?_
  rintro e w1 ⟨rfl, hr1, hg1⟩
  go_wp2_with fail
  go_ret3
  exact ⟨rfl, hr1, hg1⟩

/-- What End says. -/
def rdEnd (l : List UInt8) (err : Nat) : Nat := if err = 0 ∧ 0 < l.length then 31 else err
set_option maxHeartbeats 400000 in
theorem end_rd (g B : Nat) (l : List UInt8) (err : Nat) (w : World) (hr : Rd w g B l err) (hl : l.length ≤ 1099511627776) :
    Calls Tryz.prog 71 #[.pointer (some ⟨g, 0, none⟩)] w fun e w' => e = .returned (.int .i64 (rdEnd l err : Int)) ∧ w = w' := by
  obtain ⟨A, k, c, hb, hown⟩ := hr
  have d0 : w.cell? ⟨g, 0, none⟩ = some (.slice A k c) := hb.cell 0
  have d1 : w.cell? ⟨g, 1, none⟩ = some (.int .i64 (err : Int)) := hb.cell 1
  obtain rfl := hown.len
  clear hb hown
  by_cases h0 : err = 0
  · subst h0
    by_cases hz : 0 < l.length
    · have HE : Hid (rdEnd l 0 = 31) := by unfold rdEnd; rw [if_pos ⟨rfl, hz⟩]; rfl
      go_enter Tryz.func71, Tryz.ntmps71
      go_wp2_with fail
      go_ret
      rw [HE.out]
      exact ⟨rfl, rfl⟩
    · have HE : Hid (rdEnd l 0 = 0) := by unfold rdEnd; rw [if_neg (fun h => hz h.2)]; rfl
      go_enter Tryz.func71, Tryz.ntmps71
      go_wp2_with fail
      go_ret
      rw [HE.out]
      exact ⟨rfl, rfl⟩
  · have HE : Hid (rdEnd l err = err) := by unfold rdEnd; rw [if_neg (fun h => h0 h.1)]; rfl
    have t0 : ((err : Int) == 0) = false := by rw [beq_eq_false_iff_ne]; omega
    clear h0
    go_enter Tryz.func71, Tryz.ntmps71
    go_wp2_with fail
    go_ret
    rw [HE.out]
    exact ⟨rfl, rfl⟩
end Go.Proofs.YtojlldalhhibmaaGreatDoor

namespace Go.Proofs.YtojlldalhhibmaaGreatDoor
open Go Go.RowKit
set_option linter.unusedVariables false

theorem rdErrP_eq (e : Nat) : rdErrP e = rdErr e := rfl
set_option maxHeartbeats 1000000 in
theorem rnum_any (g B : Nat) (l : List UInt8) (err : Nat) (w : World) (hr : Rd w g B l err) (hB : B ≤ w.heap.size) (hl : l.length ≤ 1099511627776) :
    Calls Tryz.prog 69 #[.pointer (some ⟨g, 0, none⟩)] w fun e w' => e = .returned (.int .u64 ((rdNum l err).1 : Int)) ∧ Rd w' g B (rdNum l err).2.1 (rdNum l err).2.2 ∧ w.grownBy w' (some g) := by
  have no : ∀ err', rdNum l err = (0, l, err') → (Calls Tryz.prog 88 #[.pointer (some ⟨g, 0, none⟩)] w fun e w' => e = .returned (.tuple #[.int .u64 0, .slice none 0 0, .bool false]) ∧ Rd w' g B l err' ∧ w.grownBy w' (some g)) →
      Calls Tryz.prog 69 #[.pointer (some ⟨g, 0, none⟩)] w fun e w' => e = .returned (.int .u64 ((rdNum l err).1 : Int)) ∧ Rd w' g B (rdNum l err).2.1 (rdNum l err).2.2 ∧ w.grownBy w' (some g) := by
    intro err' hrc hb
    have HRC := Lib.hid hrc
    have HBL := Lib.hid hb
    clear hrc hb
    go_enter Tryz.func69, Tryz.ntmps69
    go_wp2_with fail
    refine HBL.out.mono ?_
    rintro e w1 ⟨rfl, hr1, hg1⟩
    go_wp2_with fail
    go_ret
    rw [HRC.out]
    exact ⟨rfl, hr1, hg1⟩
  by_cases h0 : err = 0
  · subst h0
    cases hgv : getVarB l with
    | error er =>
      exact no (rdErr er) (by unfold rdNum; rw [if_neg (by simp), hgv]; rfl) (rtake_err g B l er w hr hl hgv)
    | ok xn =>
      obtain ⟨x, n⟩ := xn
      have HRC : Hid (rdNum l 0 = (x, l.drop n, 0)) := by unfold rdNum; rw [if_neg (by simp), hgv]; rfl
      have HBL := Lib.hid (rtake_ok g B l x n w hr hl hgv)
      have HR := Lib.hid hr
      clear no hr
      go_enter Tryz.func69, Tryz.ntmps69
      go_wp2_with fail
      refine HBL.out.mono ?_
      rintro e w1 ⟨A1, k1, c1, rfl, hown1, hbl1⟩
      obtain ⟨A, k, c, hb1, _⟩ := HR.out.later hbl1
      have d0 : w1.cell? ⟨g, 0, none⟩ = some (.slice A k c) := hb1.cell 0
      have f0 := hb1.free 0
      go_wp2_with fail
      go_ret
      rw [HRC.out]
      exact ⟨rfl, ⟨A1, k1, c1, hb1.put 0 _, (Ub.of_own (hown1.lower hB)).beside hb1 (by decide) (grown_put _ _ _ _)⟩, (below_grownBy hbl1 _).trans (grown_put _ _ _ _)⟩
  · refine no err (by unfold rdNum; rw [if_pos h0]) ((rtake_old g B l err w hr h0).mono ?_)
    rintro e w1 ⟨rfl, rfl⟩
    exact ⟨rfl, hr, World.grownBy.refl _ _⟩


theorem below_size {g B : Nat} {w w' : World} (h : w.grownBy w' (some g)) : w.heap.size ≤ w'.heap.size := h.size
set_option maxHeartbeats 1000000 in
set_option maxRecDepth 100000 in
theorem rtext_no (g B : Nat) (l : List UInt8) (w : World) (err' : Nat)
    (hb : Calls Tryz.prog 89 #[.pointer (some ⟨g, 0, none⟩), takeFn g, .int .i64 65536] w fun e w' => e = .returned (.tuple #[.int .i64 0, .slice none 0 0, .bool false]) ∧ Rd w' g B l err' ∧ w.grownBy w' (some g)) :
    Calls Tryz.prog 70 #[.pointer (some ⟨g, 0, none⟩)] w fun e w' => e = .returned (.string (st [])) ∧ Rd w' g B l err' ∧ w.grownBy w' (some g) := by
  have hmf := run_makeFunc Tryz.prog
  have HBL := Lib.hid hb
  clear hb
  go_enter Tryz.func70, Tryz.ntmps70
  go_wp2_with fail
  refine HBL.out.mono ?_
  rintro e w1 ⟨rfl, hr1, hg1⟩
  go_wp2_with fail
  go_ret
  exact ⟨rfl, hr1, hg1⟩
set_option maxHeartbeats 1000000 in
set_option maxRecDepth 100000 in
theorem rtext_short (g B : Nat) (l : List UInt8) (x n : Nat) (w : World) (hr : Rd w g B l 0) (hl : l.length ≤ 1099511627776) (hg : getVarB l = .ok (x, n)) (hx : x ≤ 65536) (hs : (l.drop n).length < x) :
    Calls Tryz.prog 70 #[.pointer (some ⟨g, 0, none⟩)] w fun e w' => e = .returned (.string (st [])) ∧ Rd w' g B l 30 ∧ w.grownBy w' (some g) := by
  have hmf := run_makeFunc Tryz.prog
  have HBL := Lib.hid (below_ok g B l x n 65536 w hr hl hg (by omega) (by omega))
  have HR := Lib.hid hr
  clear hr
  generalize l.drop n = m at *
  go_enter Tryz.func70, Tryz.ntmps70
  go_wp2_with fail
  refine HBL.out.mono ?_
  rintro e w1 ⟨A1, k1, c1, rfl, hown1, hbl1⟩
  obtain rfl := hown1.len
  have HR1 := Lib.hid (HR.out.later hbl1)
  have t0 : decide (m.length < x) = true := by rw [decide_eq_true_eq]; exact hs
  go_wp2_with fail
  refine (fail_any g B l 0 30 w1 HR1.out (by omega) (by omega)).mono ?_
  rintro e w2 ⟨rfl, hr2, hg2⟩
  go_wp2_with fail
  go_ret
  exact ⟨rfl, hr2, (below_grownBy hbl1 _).trans hg2⟩
set_option maxHeartbeats 1000000 in
set_option maxRecDepth 100000 in
theorem rtext_ok (g B : Nat) (l : List UInt8) (x n : Nat) (w : World) (hr : Rd w g B l 0) (hB : B ≤ w.heap.size) (hl : l.length ≤ 1099511627776) (hg : getVarB l = .ok (x, n)) (hx : x ≤ 65536) (hs : ¬ (l.drop n).length < x) :
    Calls Tryz.prog 70 #[.pointer (some ⟨g, 0, none⟩)] w fun e w' => e = .returned (.string (st ((l.drop n).take x))) ∧ Rd w' g B ((l.drop n).drop x) 0 ∧ w.grownBy w' (some g) := by
  have hmf := run_makeFunc Tryz.prog
  have HBL := Lib.hid (below_ok g B l x n 65536 w hr hl hg (by omega) (by omega))
  have HR := Lib.hid hr
  have hll : (l.drop n).length ≤ 1099511627776 := by rw [List.length_drop]; omega
  clear hr
  generalize l.drop n = m at *
  go_enter Tryz.func70, Tryz.ntmps70
  go_wp2_with fail
  refine HBL.out.mono ?_
  rintro e w1 ⟨A1, k1, c1, rfl, hown1, hbl1⟩
  obtain rfl := hown1.len
  obtain ⟨A, k, c, hb1, _⟩ := HR.out.later hbl1
  have d0 : w1.cell? ⟨g, 0, none⟩ = some (.slice A k c) := hb1.cell 0
  have f0 := hb1.free 0
  have HB1 := Lib.hid hb1
  have t0 : decide (m.length < x) = false := by rw [decide_eq_false_iff_not]; exact hs
  have hxm : x ≤ m.length := by omega
  clear hs hb1
  rcases hown1.2 with ⟨hv, hn⟩ | ⟨g1, cap, cur, hv, _, _, hnc, hcm, _⟩
  · injection hv with hA _ hc
    subst hA hc
    obtain rfl : m = [] := List.eq_nil_of_length_eq_zero hn
    obtain rfl : x = 0 := by simpa using hxm
    have cv := run_string_of_bs (P := Tryz.prog) (Bs.nilv (fun _ => True) (w1.setCell ⟨g, 0, none⟩ (.slice none 0 0))) tB tU tS
    clear hown1
    go_wp2_with fail
    go_ret
    exact ⟨rfl, ⟨none, 0, 0, HB1.out.put 0 _, Bs.nilv _ _⟩, (below_grownBy hbl1 _).trans (grown_put _ _ _ _)⟩
  · injection hv with hA _ hc
    subst hA hc
    have hu := (Ub.of_own (hown1.lower hB)).beside HB1.out (by decide) (grown_put w1 g 0 (.slice (if c1 = x then some ⟨g1, 0, none⟩ else some ⟨g1, 0 + x, none⟩) (m.length - x) (c1 - x)))
    have cv := run_string_of_bs (P := Tryz.prog) (Bs.pre hu.bs hxm) tB tU tS
    have hcut : Hid (Ub (w1.setCell ⟨g, 0, none⟩ (.slice (if c1 = x then some ⟨g1, 0, none⟩ else some ⟨g1, 0 + x, none⟩) (m.length - x) (c1 - x))) B _ _) := Bs.cut hu hxm
    clear hown1 hu
    by_cases hcx : c1 = x
    · rw [if_pos hcx] at cv hcut
      subst hcx
      rw [Nat.sub_self, show m.length - c1 = 0 by omega] at cv hcut
      go_wp2_with fail
      go_ret
      exact ⟨rfl, ⟨_, _, _, HB1.out.put 0 _, hcut⟩, (below_grownBy hbl1 _).trans (grown_put _ _ _ _)⟩
    · rw [if_neg hcx, Nat.zero_add] at cv hcut
      go_wp2_with fail
      go_ret
      exact ⟨rfl, ⟨_, _, _, HB1.out.put 0 _, hcut⟩, (below_grownBy hbl1 _).trans (grown_put _ _ _ _)⟩

set_option maxHeartbeats 1000000 in
theorem rtext_any (g B : Nat) (l : List UInt8) (err : Nat) (w : World) (hr : Rd w g B l err) (hB : B ≤ w.heap.size) (hl : l.length ≤ 1099511627776) :
    Calls Tryz.prog 70 #[.pointer (some ⟨g, 0, none⟩)] w fun e w' => e = .returned (.string (st (rdText l err).1)) ∧ Rd w' g B (rdText l err).2.1 (rdText l err).2.2 ∧ w.grownBy w' (some g) := by
  by_cases h0 : err = 0
  · subst h0
    cases hgv : getVarB l with
    | error er =>
      have e : rdText l 0 = ([], l, rdErr er) := by unfold rdText; rw [if_neg (by simp), hgv]; rfl
      rw [e]
      exact rtext_no g B l w _ (below_no g B l 65536 w 0 _ (rtake_err g B l er w hr hl hgv))
    | ok xn =>
      obtain ⟨x, n⟩ := xn
      by_cases hx : 65536 < x
      · have e : rdText l 0 = ([], l, 32) := by unfold rdText; rw [if_neg (by simp), hgv]; simp only; rw [if_pos hx]
        rw [e]
        exact rtext_no g B l w _ (below_big g B l x n 65536 w hr hl hgv (by omega) (by omega) (by omega))
      · by_cases hs : (l.drop n).length < x
        · have e : rdText l 0 = ([], l, 30) := by unfold rdText; rw [if_neg (by simp), hgv]; simp only; rw [if_neg hx, if_pos hs]
          rw [e]
          exact rtext_short g B l x n w hr hl hgv (by omega) hs
        · have e : rdText l 0 = ((l.drop n).take x, (l.drop n).drop x, 0) := by unfold rdText; rw [if_neg (by simp), hgv]; simp only; rw [if_neg hx, if_neg hs]
          rw [e]
          exact rtext_ok g B l x n w hr hB hl hgv (by omega) hs
  · have e : rdText l err = ([], l, err) := by unfold rdText; rw [if_pos h0]
    rw [e]
    refine rtext_no g B l w _ (below_no g B l 65536 w err err ((rtake_old g B l err w hr h0).mono ?_))
    rintro e w1 ⟨rfl, rfl⟩
    exact ⟨rfl, hr, World.grownBy.refl _ _⟩
end Go.Proofs.YtojlldalhhibmaaGreatDoor

namespace Go.Proofs.YtojlldalhhibmaaGreatDoor
open Go Go.RowKit
set_option linter.unusedVariables false

/-- ty is a struct's type, of n cells. -/
def StructTy (P : Program) (ty : TypeId) (n : Nat) : Prop := (∃ fs, P.underlying ty = some (.struct fs)) ∧ (P.info? ty).map (·.size) = some n

section
variable {P : Program} {fn : Func}
theorem loadVar_blk {w : World} {g : Nat} {t ty : TypeId} {cs : Array Value} (hg : Blk w g t cs) (hS : StructTy P ty cs.size) : (loadVar ty ⟨g, 0, none⟩).run P w = .ok (.agg cs) w := by
  obtain ⟨⟨fs, hu⟩, hi⟩ := hS
  exact run_loadVar_row w g t ty cs (0, 0) _ hg hu rfl hi
theorem results_cell2 {p u : Tmp} {ty : TypeId} (h : fn.results = #[.cell p ty, .tmp u]) (tmps : Array Value) (w : World) (g : Nat) {t : TypeId} {cs : Array Value}
    (hp : tmps.getD p undef = .pointer (some ⟨g, 0, none⟩)) (hg : Blk w g t cs) (hS : StructTy P ty cs.size) :
    (results fn tmps).run P w = .ok (.tuple #[.agg cs, tmps.getD u undef]) w := by
  have hp' : tmps[p]?.getD undef = .pointer (some ⟨g, 0, none⟩) := by simpa using hp
  simp [results, h, hp', asAddr, loadVar_blk hg hS]
theorem results_cell3 {p u v : Tmp} {ty : TypeId} (h : fn.results = #[.cell p ty, .tmp u, .tmp v]) (tmps : Array Value) (w : World) (g : Nat) {t : TypeId} {cs : Array Value}
    (hp : tmps.getD p undef = .pointer (some ⟨g, 0, none⟩)) (hg : Blk w g t cs) (hS : StructTy P ty cs.size) :
    (results fn tmps).run P w = .ok (.tuple #[.agg cs, tmps.getD u undef, tmps.getD v undef]) w := by
  have hp' : tmps[p]?.getD undef = .pointer (some ⟨g, 0, none⟩) := by simpa using hp
  simp [results, h, hp', asAddr, loadVar_blk hg hS]
theorem results_cell1 {p : Tmp} {ty : TypeId} (h : fn.results = #[.cell p ty]) (tmps : Array Value) (w : World) (g : Nat) {t : TypeId} {cs : Array Value}
    (hp : tmps.getD p undef = .pointer (some ⟨g, 0, none⟩)) (hg : Blk w g t cs) (hS : StructTy P ty cs.size) :
    (results fn tmps).run P w = .ok (.agg cs) w := by
  have hp' : tmps[p]?.getD undef = .pointer (some ⟨g, 0, none⟩) := by simpa using hp
  simp [results, h, hp', asAddr, loadVar_blk hg hS]
theorem results_cells21 {p q u : Tmp} {ty ty' : TypeId} (h : fn.results = #[.cell p ty, .cell q ty', .tmp u]) (tmps : Array Value) (w : World) (g g' : Nat) {t t' : TypeId} {cs cs' : Array Value}
    (hp : tmps.getD p undef = .pointer (some ⟨g, 0, none⟩)) (hq : tmps.getD q undef = .pointer (some ⟨g', 0, none⟩)) (hg : Blk w g t cs) (hg' : Blk w g' t' cs') (hS : StructTy P ty cs.size) (hS' : StructTy P ty' cs'.size) :
    (results fn tmps).run P w = .ok (.tuple #[.agg cs, .agg cs', tmps.getD u undef]) w := by
  have hp' : tmps[p]?.getD undef = .pointer (some ⟨g, 0, none⟩) := by simpa using hp
  have hq' : tmps[q]?.getD undef = .pointer (some ⟨g', 0, none⟩) := by simpa using hq
  simp [results, h, hp', hq', asAddr, loadVar_blk hg hS, loadVar_blk hg' hS']
end
end Go.Proofs.YtojlldalhhibmaaGreatDoor

namespace Go.Proofs.YtojlldalhhibmaaGreatDoor
open Go Go.RowKit
set_option linter.unusedVariables false

def rgetV : Option ((Nat × List UInt8) × Nat) → Value
  | some (r, n) => .tuple #[recV r, .int .i64 (n : Int), .bool true]
  | none => .tuple #[recV (0, []), .int .i64 0, .bool false]
theorem recTy : StructTy Tryz.prog 71 2 := ⟨⟨_, Tryz.underlying71⟩, by kernel_rfl⟩
/-- A record's cells are written: both. -/
theorem Blk.put2 {w : World} {g : Nat} {t : TypeId} {a b : Value} (h : Blk w g t #[a, b]) (x y : Value) : Blk ((w.setCell ⟨g, 0, none⟩ x).setCell ⟨g, 1, none⟩ y) g t #[x, y] := (h.put 0 x).put 1 y

set_option maxHeartbeats 1000000 in
set_option maxRecDepth 100000 in
theorem rget_short (A : Option Addr) (k c : Nat) (w : World) (hk : k < 4) :
    Calls Tryz.prog 46 #[.slice A k c] w fun e w' => e = .returned (rgetV none) ∧ Below w.heap.size w w' := by
  have q0 : Below w.heap.size w (w.alloc (.cells #[.int .u64 0, .string (st [])] 71)) := (Below.refl _ _).alloc (Nat.le_refl _) _
  have hb0 := Blk.new w 71 #[.int .u64 0, .string (st [])]
  go_enter Tryz.func46, Tryz.ntmps46
  go_wp2_with fail
  refine (get_short A k c 4 _ (by omega) (by omega) hk).mono ?_
  rintro e w1 ⟨rfl, rfl⟩
  go_wp2_with fail
  exact bodyPost_ret (results_cell3 rfl _ _ w.heap.size rfl hb0 recTy) rfl ⟨rfl, q0⟩

theorem Ob.cases {e : TypeId} {w : World} {B : Nat} {A : Option Addr} {k c : Nat} {l : List UInt8} (h : Ob e w B (.slice A k c) l) : (A = none ∧ l = [] ∧ c = 0) ∨ ∃ g, A = some ⟨g, 0, none⟩ := by
  rcases h.2 with ⟨hv, hn⟩ | ⟨g, cap, cur, hv, _⟩
  · injection hv with hA _ hc
    exact .inl ⟨hA, List.eq_nil_of_length_eq_zero hn, hc⟩
  · injection hv with hA _ hc
    exact .inr ⟨g, hA⟩
theorem openB_err {l : List UInt8} {er : Nat} (h : openB l = .error er) : er = 20 ∨ er = 21 := by
  unfold openB at h
  split at h
  · cases h; exact .inl rfl
  · split at h
    · cases h
    · cases h; exact .inr rfl
theorem openB_len {l f : List UInt8} (h : openB l = .ok f) : f.length ≤ l.length := by
  unfold openB at h
  split at h
  · cases h
  · split at h
    · cases h; rw [List.length_take]; omega
    · cases h
/-- What the fields say. -/
def recIn (f : List UInt8) (n : Nat) : Option ((Nat × List UInt8) × Nat) :=
  if (rdText (rdNum f 0).2.1 (rdNum f 0).2.2).2.2 = 0 ∧ (rdText (rdNum f 0).2.1 (rdNum f 0).2.2).2.1 = [] ∧ (rdText (rdNum f 0).2.1 (rdNum f 0).2.2).1.length ≤ 32768
  then some (((rdNum f 0).1, (rdText (rdNum f 0).2.1 (rdNum f 0).2.2).1), 4 + n) else none
def recOp (m : List UInt8) (n : Nat) : Option ((Nat × List UInt8) × Nat) := match openB (m.take n) with
  | .error _ => none
  | .ok f => recIn f n
theorem recGet_op {l : List UInt8} (h : ¬ (l.length < 4 ∨ (l.drop 4).length < deB (l.take 4))) : recGet l = recOp (l.drop 4) (deB (l.take 4)) := by
  unfold recGet recOp recIn
  rw [if_neg h]
  cases openB ((l.drop 4).take (deB (l.take 4))) <;> rfl
theorem openB_nil : openB [] = .error 20 := by unfold openB; rw [if_pos (by simp)]
theorem rdEnd_zero {l : List UInt8} {e : Nat} : rdEnd l e = 0 ↔ e = 0 ∧ l = [] := by
  unfold rdEnd
  constructor
  · intro h
    split at h
    · cases h
    · rename_i h2
      subst h
      refine ⟨rfl, ?_⟩
      rcases l with _ | ⟨b, l⟩
      · rfl
      · exact absurd ⟨rfl, by simp⟩ h2
  · rintro ⟨rfl, rfl⟩
    rfl
theorem rdNum_le (l : List UInt8) {e : Nat} (he : e ≤ 1000) : (rdNum l e).1 < U64 ∧ (rdNum l e).2.1.length ≤ l.length ∧ (rdNum l e).2.2 ≤ 1000 := by
  unfold rdNum
  split
  · exact ⟨by simp [U64], Nat.le_refl _, he⟩
  · split
    · rename_i er hg
      exact ⟨by simp [U64], Nat.le_refl _, (rdErr_le hg).1⟩
    · rename_i x n hg
      exact ⟨(getVarB_bound hg).1, by rw [List.length_drop]; omega, Nat.zero_le _⟩
theorem rdText_le (l : List UInt8) {e : Nat} (he : e ≤ 1000) : (rdText l e).1.length ≤ 65536 ∧ (rdText l e).2.1.length ≤ l.length ∧ (rdText l e).2.2 ≤ 1000 := by
  unfold rdText
  split
  · exact ⟨by simp, Nat.le_refl _, he⟩
  · split
    · rename_i er hg
      exact ⟨by simp, Nat.le_refl _, (rdErr_le hg).1⟩
    · rename_i x n hg
      split
      · exact ⟨by simp, Nat.le_refl _, (show 32 ≤ 1000 by decide)⟩
      · split
        · exact ⟨by simp, Nat.le_refl _, (show 30 ≤ 1000 by decide)⟩
        · exact ⟨by simp only [List.length_take]; omega, by simp only [List.length_drop]; omega, Nat.zero_le _⟩

set_option maxHeartbeats 2000000 in
set_option maxRecDepth 100000 in
theorem rget_any (S : Nat → Prop) (v0 : Value) (l : List UInt8) (w : World) (hl : l.length ≤ 1099511627776) (hr : Bs S w v0 l) :
    Calls Tryz.prog 46 #[v0] w fun e w' => e = .returned (rgetV (recGet l)) ∧ Below w.heap.size w w' := by
  have HR : Hid (Bs (fun b => b < w.heap.size) w v0 l) := (Sl.lt hr (by omega)).more (fun _ h => h.2)
  by_cases h4 : l.length < 4
  · obtain ⟨A, c, rfl, _⟩ := hr.at
    have e : recGet l = none := by unfold recGet; rw [if_pos (.inl h4)]
    rw [e]
    exact rget_short A l.length c w h4
  have q0 : Below w.heap.size w (w.alloc (.cells #[.int .u64 0, .string (st [])] 71)) := (Below.refl _ _).alloc (Nat.le_refl _) _
  have hb0 := Blk.new w 71 #[.int .u64 0, .string (st [])]
  have hr0 : Hid (Bs (fun b => b < w.heap.size) (w.alloc (.cells #[.int .u64 0, .string (st [])] 71)) v0 l) := Sl.alloc HR.out (fun _ h => h) _
  have hd4 : deB (l.take 4) < 4294967296 := Nat.lt_of_lt_of_le (deB_take_lt l 4) (by decide)
  have hdl : (l.drop 4).length ≤ 1099511627776 := by rw [List.length_drop]; omega
  go_enter Tryz.func46, Tryz.ntmps46
  go_wp2_with fail
  refine (get_ok _ v0 l 4 _ (by omega) (by omega) (by omega) hl hr0.out).mono ?_
  rintro e w1 ⟨A1, k1, c1, rfl, hown1, hbl1⟩
  obtain rfl := hown1.len
  have hb1 := hb0.later hbl1
  have q1 := q0.trans (hbl1.mono q0.size)
  have hs1 := q1.size
  have hwr : IntKind.u64.wrap ((l.drop 4).length : Int) = ((l.drop 4).length : Int) := wrap_u64 (by omega) (by unfold U64; omega)
  have HO1 := Lib.hid hown1
  have d0 : w1.cell? ⟨w.heap.size, 0, none⟩ = some (.int .u64 0) := hb1.cell 0
  have d1 : w1.cell? ⟨w.heap.size, 1, none⟩ = some (.string (st [])) := hb1.cell 1
  have f0 := hb1.free 0
  have f1 := hb1.free 1
  have HB1 := Lib.hid hb1
  clear hown1 hb1 hb0 hbl1 hr0
  by_cases hn : (l.drop 4).length < deB (l.take 4)
  · have HN : Hid (recGet l = none) := by unfold recGet; rw [Hid, if_pos (.inr hn)]
    generalize deB (l.take 4) = n at *
    generalize l.drop 4 = m at *
    have t0 : decide (m.length < n) = true := by rw [decide_eq_true_eq]; exact hn
    clear hn
    go_wp2_with fail
    exact bodyPost_ret (results_cell3 rfl _ _ w.heap.size rfl (HB1.out.put2 _ _) recTy) rfl ⟨by rw [HN.out]; rfl, (q1.setCell (by simp) _).setCell (by simp) _⟩
  · have hnm : deB (l.take 4) ≤ (l.drop 4).length := by omega
    have HG : Hid (recGet l = recOp (l.drop 4) (deB (l.take 4))) := recGet_op (by omega)
    generalize deB (l.take 4) = n at *
    generalize l.drop 4 = m at *
    have t0 : decide (m.length < n) = false := by rw [decide_eq_false_iff_not]; exact hn
    clear hn
    rcases HO1.out.cases with ⟨rfl, rfl, rfl⟩ | ⟨g1, rfl⟩
    · obtain rfl : n = 0 := by simpa using hnm
      have HN : Hid (recGet l = none) := by rw [Hid, HG.out, recOp, List.take_nil, openB_nil]
      clear HG
      go_wp2_with fail
      refine (open_any _ _ [] w1 (by simp) (Bs.nilv (fun _ => True) _)).mono ?_
      rintro e w2 ⟨_, her, hbl2⟩
      obtain rfl := her _ openB_nil
      have hb2 := HB1.out.later hbl2
      have e0 : w2.cell? ⟨w.heap.size, 0, none⟩ = some (.int .u64 0) := hb2.cell 0
      have e1 : w2.cell? ⟨w.heap.size, 1, none⟩ = some (.string (st [])) := hb2.cell 1
      have g0 := hb2.free 0
      have g1 := hb2.free 1
      have q2 := q1.trans (hbl2.mono hs1)
      clear her
      go_wp2_with fail
      exact bodyPost_ret (results_cell3 rfl _ _ w.heap.size rfl (hb2.put2 _ _) recTy) rfl ⟨by rw [HN.out]; rfl, (q2.setCell (by simp) _).setCell (by simp) _⟩
    · have hpre := Lib.hid (Bs.pre HO1.out.bs hnm)
      have hcp : m.length ≤ c1 := by
        obtain ⟨_, c', hv, h, _⟩ := HO1.out.bs.at
        injection hv with _ _ hv
        omega
      have hml : (m.take n).length ≤ 1099511627776 := by rw [List.length_take]; omega
      have HNM := Lib.hid hnm
      go_wp2_with fail
      refine (open_any _ _ (m.take n) w1 hml hpre.out).mono ?_
      rintro e w2 ⟨hok, her, hbl2⟩
      have hb2 := HB1.out.later hbl2
      have q2 := q1.trans (hbl2.mono hs1)
      have hs2 := q2.size
      cases ho : openB (m.take n) with
      | error er =>
        obtain rfl := her _ ho
        have HN : Hid (recGet l = none) := by rw [Hid, HG.out, recOp, ho]
        have e0 : w2.cell? ⟨w.heap.size, 0, none⟩ = some (.int .u64 0) := hb2.cell 0
        have e1 : w2.cell? ⟨w.heap.size, 1, none⟩ = some (.string (st [])) := hb2.cell 1
        have g0 := hb2.free 0
        have g1 := hb2.free 1
        have t1 : ((er : Int) != 0) = true := by
          rw [bne_iff_ne]
          rcases openB_err ho with rfl | rfl <;> decide
        clear her hok HG ho
        go_wp2_with fail
        exact bodyPost_ret (results_cell3 rfl _ _ w.heap.size rfl (hb2.put2 _ _) recTy) rfl ⟨by rw [HN.out]; rfl, (q2.setCell (by simp) _).setCell (by simp) _⟩
      | ok f =>
        obtain ⟨A2, k2, c2, rfl, hown2⟩ := hok _ ho
        have hfl : f.length ≤ 1099511627776 := Nat.le_trans (openB_len ho) hml
        have HG : Hid (recGet l = recIn f n) := by rw [Hid, HG.out, recOp, ho]
        have HO2 := Lib.hid hown2
        have HB2 := Lib.hid hb2
        have hmf := run_makeFunc Tryz.prog
        have hwn : IntKind.i64.wrap (4 + (n : Int)) = 4 + (n : Int) := IntWalk.i64_in _ (by omega)
        have hwn2 : IntKind.i64.wrap (n : Int) = (n : Int) := IntWalk.i64_in _ (by omega)
        clear her hok ho hown2 hpre hb2 d0 d1 f0 f1
        go_wp2_with fail
        refine (read_any _ _ f w2 hfl HO2.out.bs).mono ?_
        rintro e w3 ⟨g, rfl, hg3, hr3, hbl3⟩
        have HB3 := Lib.hid (HB2.out.later hbl3)
        have q3 := q2.trans (hbl3.mono hs2)
        have hs3 := q3.size
        have hne : g ≠ w.heap.size := by have := HB2.out.lt; omega
        have HR3 := Lib.hid hr3
        clear hr3
        go_wp2_with fail
        refine (rnum_any g w2.heap.size f 0 w3 HR3.out hbl3.size hfl).mono ?_
        rintro e w4 ⟨rfl, hr4, hgr4⟩
        have hle4 := rdNum_le f (e := 0) (by omega)
        obtain ⟨X, hX⟩ : ∃ X, rdNum f 0 = X := ⟨_, rfl⟩
        rw [hX] at hr4 hle4
        rw [hX]
        obtain ⟨q, r4, e4⟩ := X
        simp only at hr4 hle4 ⊢
        have HB4 := Lib.hid (HB3.out.grown hgr4 (by simpa using hne))
        have q4 := q3.trans (grown_below hgr4 (by omega) hs3)
        have hs4 := q4.size
        have HR4 := Lib.hid hr4
        have hw4 : w2.heap.size ≤ w4.heap.size := Nat.le_trans hbl3.size hgr4.size
        clear hr4 hgr4
        go_wp2_with fail
        refine (rtext_any g w2.heap.size r4 e4 w4 HR4.out hw4 (by omega)).mono ?_
        rintro e w5 ⟨rfl, hr5, hgr5⟩
        have hle5 := rdText_le r4 hle4.2.2
        obtain ⟨Y, hY⟩ : ∃ Y, rdText r4 e4 = Y := ⟨_, rfl⟩
        rw [hY] at hr5 hle5
        rw [hY]
        obtain ⟨t, r5, e5⟩ := Y
        simp only at hr5 hle5 ⊢
        have HB5 := Lib.hid (HB4.out.grown hgr5 (by simpa using hne))
        have q5 := q4.trans (grown_below hgr5 (by omega) hs4)
        have hs5 := q5.size
        have HR5 := Lib.hid (hr5.later ((Below.refl _ _).alloc (Nat.le_refl _) (.cells #[.int .u64 (q : Int), .string (st t)] 71)))
        have HG2 : Hid (recGet l = if e5 = 0 ∧ r5 = [] ∧ t.length ≤ 32768 then some ((q, t), 4 + n) else none) := by rw [Hid, HG.out, recIn]; simp only [hX, hY]
        have hnb := Blk.new w5 71 #[.int .u64 (q : Int), .string (st t)]
        have q6 := q5.alloc hs5 (.cells #[.int .u64 (q : Int), .string (st t)] 71)
        have hb6 := HB5.out.alloc (.cells #[.int .u64 (q : Int), .string (st t)] 71)
        have hws5 : w.heap.size ≠ w5.heap.size := by have := HB5.out.lt; omega
        have HRL := Lib.hid (show r5.length ≤ 1099511627776 by omega)
        clear hr5 hgr5 HG hX hY hle4 hle5
        go_wp2_with fail
        refine (end_rd g w2.heap.size r5 e5 _ HR5.out HRL.out).mono ?_
        rintro e w6 ⟨rfl, rfl⟩
        have d0 : (w5.alloc (.cells #[.int .u64 (q : Int), .string (st t)] 71)).cell? ⟨w.heap.size, 0, none⟩ = some (.int .u64 0) := hb6.cell 0
        have d1 : (w5.alloc (.cells #[.int .u64 (q : Int), .string (st t)] 71)).cell? ⟨w.heap.size, 1, none⟩ = some (.string (st [])) := hb6.cell 1
        have f0 := hb6.free 0
        have f1 := hb6.free 1
        have HZ := Lib.hid (rdEnd_zero (l := r5) (e := e5))
        by_cases hE : rdEnd r5 e5 = 0
        · have hz := HZ.out.1 hE
          rw [hE]
          by_cases ht : t.length ≤ 32768
          · have HN : Hid (recGet l = some ((q, t), 4 + n)) := by rw [Hid, HG2.out, if_pos ⟨hz.1, hz.2, ht⟩]
            clear hz hE HG2
            go_wp2_with fail
            exact bodyPost_ret (results_cell3 rfl _ _ w.heap.size rfl (hb6.put2 _ _) recTy) rfl ⟨by rw [HN.out]; rfl, (q6.setCell (by simp) _).setCell (by simp) _⟩
          · have HN : Hid (recGet l = none) := by rw [Hid, HG2.out, if_neg (fun h => ht h.2.2)]
            clear hz hE HG2
            go_wp2_with fail
            exact bodyPost_ret (results_cell3 rfl _ _ w.heap.size rfl (hb6.put2 _ _) recTy) rfl ⟨by rw [HN.out]; rfl, (q6.setCell (by simp) _).setCell (by simp) _⟩
        · have HN : Hid (recGet l = none) := by rw [Hid, HG2.out, if_neg (fun h => hE (HZ.out.2 ⟨h.1, h.2.1⟩))]
          have t1 : ((rdEnd r5 e5 : Int) != 0) = true := by rw [bne_iff_ne]; omega
          generalize rdEnd r5 e5 = ee at *
          clear hE HG2 HZ
          go_wp2_with fail
          exact bodyPost_ret (results_cell3 rfl _ _ w.heap.size rfl (hb6.put2 _ _) recTy) rfl ⟨by rw [HN.out]; rfl, (q6.setCell (by simp) _).setCell (by simp) _⟩
end Go.Proofs.YtojlldalhhibmaaGreatDoor

namespace Go.Proofs.YtojlldalhhibmaaGreatDoor
open Go Go.RowKit
set_option linter.unusedVariables false

/-- The cells of records. -/
def rcs (rs : List (Nat × List UInt8)) : List Value := rs.flatMap fun r => [.int .u64 (r.1 : Int), .string (st r.2)]
theorem rcs_len (rs : List (Nat × List UInt8)) : (rcs rs).length = rs.length * 2 := by
  induction rs with
  | nil => rfl
  | cons r rs ih => simp only [rcs, List.flatMap_cons, List.length_append, List.length_cons, List.length_nil] at ih ⊢; omega
theorem rcs_append (a b : List (Nat × List UInt8)) : rcs (a ++ b) = rcs a ++ rcs b := by simp [rcs]
theorem rcs_one (rs : List (Nat × List UInt8)) : ∀ u ∈ rcs rs, u.oneCell' = true := by
  intro u hu
  obtain ⟨r, _, hu⟩ := List.mem_flatMap.1 hu
  simp at hu
  rcases hu with rfl | rfl <;> rfl
theorem elemRec : Elem Tryz.prog 38 71 (.agg #[.int .u64 0, .string ⟨#[]⟩]) 2 24 := Elem.mk' Tryz.underlying38 (by kernel_rfl) rfl (by omega)
/-- The slice value v owns the records rs, in a block from B on. -/
def Ro (w : World) (B : Nat) (v : Value) (rs : List (Nat × List UInt8)) : Prop := w.ownsRow B 71 2 v rs.length (rcs rs)

/-- append as one step of a region that draws: w0 is the world without the draws. -/
theorem step_append_sl {P : Program} {w : World} {ops : Array Oper} {o : Oper} {a : Act} {K : Act → World → Prop} {Q : Exit → Act → World → Prop} {F : Prop} (w0 : World) (hd : Drawn w0 w) (hgd : o.guard = none) (s x : Operand) {t e : TypeId} {z : Value} {size bytes : Nat}
    (E : Elem P t e z size bytes) (ho : o.op = .call { callee := .builtin .append, args := #[s, x], argTypes := #[t, t] })
    {base : Nat} {v : Value} {n : Nat} {xs : List Value} (hown : w0.ownsRow base e size v n xs)
    {S : Nat → Prop} {u : Value} {m : Nat} {news : List Value} (hr : Sl S w0 size u m news) (hs : a.eval s = v) (hx : a.eval x = u) (h1 : ∀ y ∈ news, y.oneCell' = true)
    (hlen : n + m ≤ maxLen) (hbytes : (n + m) * bytes ≤ 140737488355328) (hbase : base ≤ w0.heap.size)
    (h : ∀ A k c w', w'.ownsRow base e size (.slice A k c) (n + m) (xs ++ news) → w0.grownBy w' v.ownBlock → K (a.put o.dst (.slice A k c)) w') :
    if Region.wanted o (yielded ops a.tmps) = true then Oper.wp P o a w K Q else F := by
  have hw : Region.wanted o (yielded ops a.tmps) = true := by simp [Region.wanted, hgd]
  rw [if_pos hw]
  obtain ⟨d, rfl⟩ := hd
  obtain ⟨v', w', hrun, h2, h3, h4⟩ := run_append_sl (P := P) (w0.drewN d) E o.type hown (Sl.drewN hr d) h1 hlen hbytes hbase
  obtain ⟨A, k, c, rfl⟩ := own_slice h2
  unfold Oper.wp execOp
  simp only [ho, resolve, invoke, builtin, Sem.run_bind, Sem.run_pure, Result.andThen_ok, List.map_toArray, List.map_cons, List.map_nil, hs, hx, hrun]
  exact h A k c w' h2 ⟨h3.os, h3.tape, h3.output, h3.size, h3.block⟩

/-- A new block of one record reads as that record. -/
theorem Sl.newrec {S : Nat → Prop} (w : World) (r : Nat × List UInt8) {g : Nat} (hg : g = w.heap.size) (hS : S g) :
    Sl S (w.alloc (.cells #[.int .u64 (r.1 : Int), .string (st r.2)] 71)) 2 (.slice (some ⟨g, 0, none⟩) 1 1) 1 (rcs [r]) := by
  subst hg
  refine ⟨by simp [rcs], _, 1, rfl, by simp, by simp [maxLen], (fun h => by cases h), fun _ => ⟨_, 0, rfl, hS, fun j v hu => ?_⟩⟩
  rw [World.cell?_alloc_new]
  rw [Nat.zero_add]
  simpa [rcs] using hu

/-- Two blocks of other types are written. -/
theorem ro_two {w : World} {B : Nat} {v : Value} {rs : List (Nat × List UInt8)} {r : Nat × List UInt8} {e : TypeId} {t u : TypeId} {b b' : Nat} {cs cs' : Array Value} (h : w.ownsRow B e 2 v (rs.length + 1) (rcs rs ++ rcs [r])) (hb : Blk w b t cs) (hb' : Blk w b' u cs') (h1 : e ≠ t) (h2 : e ≠ u) (hne : b ≠ b') (x y : Value) :
    ((w.setCell ⟨b, 0, none⟩ x).setCell ⟨b', 0, none⟩ y).ownsRow B e 2 v (rs ++ [r]).length (rcs (rs ++ [r])) := by
  rw [rcs_append, List.length_append]
  exact own_set (own_set h hb h1 0 x) (hb'.far (p := ⟨b, 0, none⟩) hne.symm x) h2 0 y

set_option maxHeartbeats 1000000 in
set_option maxRecDepth 100000 in
theorem keep_any (bl ba B : Nat) (A : Option Addr) (k c : Nat) (rs : List (Nat × List UInt8)) (r : Nat × List UInt8) (n a : Nat) (w : World)
    (hl : Blk w bl 38 #[.slice A k c]) (ha : Blk w ba 3 #[.int .i64 (a : Int)]) (hown : Ro w B (.slice A k c) rs) (hB : B ≤ w.heap.size) (hbl : B ≤ bl) (hba : B ≤ ba) (hrs : rs.length ≤ 1099511627776) (hna : a + n ≤ 1099511627776) :
    Calls Tryz.prog 72 #[recV r, .int .i64 n, .pointer (some ⟨bl, 0, none⟩), .pointer (some ⟨ba, 0, none⟩)] w fun e w' => e = .returned (.tuple #[]) ∧ ∃ A' k' c',
      Blk w' bl 38 #[.slice A' k' c'] ∧ Blk w' ba 3 #[.int .i64 ((a + n : Nat) : Int)] ∧ Ro w' B (.slice A' k' c') (rs ++ [r]) ∧ Below B w w' := by
  obtain ⟨q, t⟩ := r
  unfold recV
  have c0 : (w.alloc (.cells #[.int .u64 (q : Int), .string (st t)] 71)).cell? ⟨bl, 0, none⟩ = some (.slice A k c) := (hl.alloc _).cell 0
  have c1 : (w.alloc (.cells #[.int .u64 (q : Int), .string (st t)] 71)).cell? ⟨ba, 0, none⟩ = some (.int .i64 (a : Int)) := (ha.alloc _).cell 0
  have hwr : IntKind.i64.wrap ((a : Int) + (n : Int)) = ((a + n : Nat) : Int) := by rw [IntWalk.i64_in _ (by omega)]; omega
  simp only
  have hown1 : (w.alloc (.cells #[.int .u64 (q : Int), .string (st t)] 71)).ownsRow B 71 2 (.slice A k c) rs.length (rcs rs) := World.ownsRow.alloc hown _
  have q1 : Below B w (w.alloc (.cells #[.int .u64 (q : Int), .string (st t)] 71)) := (Below.refl _ _).alloc hB _
  have hl1 := hl.alloc (.cells #[.int .u64 (q : Int), .string (st t)] 71)
  have ha1 := ha.alloc (.cells #[.int .u64 (q : Int), .string (st t)] 71)
  have hn := Blk.new w 71 #[.int .u64 (q : Int), .string (st t)]
  have hsz : B ≤ (w.alloc (.cells #[.int .u64 (q : Int), .string (st t)] 71)).heap.size := by simp; omega
  go_enter Tryz.func72, Tryz.ntmps72
  go_wp2_with fail
  generalize hw1 : w.alloc (.cells #[.int .u64 (q : Int), .string (st t)] 71) = w1 at *
  have d0 : w1.cell? ⟨w.heap.size, 0, none⟩ = some (.int .u64 (q : Int)) := hn.cell 0
  have d1 : w1.cell? ⟨w.heap.size, 1, none⟩ = some (.string (st t)) := hn.cell 1
  have a0 : (w1.alloc (.cells #[.int .u64 (q : Int), .string (st t)] 71)).cell? ⟨bl, 0, none⟩ = some (.slice A k c) := (hl1.alloc _).cell 0
  have a1 : (w1.alloc (.cells #[.int .u64 (q : Int), .string (st t)] 71)).cell? ⟨ba, 0, none⟩ = some (.int .i64 (a : Int)) := (ha1.alloc _).cell 0
  have a2 : (w1.alloc (.cells #[.int .u64 (q : Int), .string (st t)] 71)).cell? ⟨w.heap.size, 0, none⟩ = some (.int .u64 (q : Int)) := (hn.alloc _).cell 0
  have a3 : (w1.alloc (.cells #[.int .u64 (q : Int), .string (st t)] 71)).cell? ⟨w.heap.size, 1, none⟩ = some (.string (st t)) := (hn.alloc _).cell 1
  have f0 := hl1.free 0
  have f1 := ha1.free 0
  have HO := Lib.hid hown1
  have hne : bl ≠ ba := Blk.ne hl ha (by decide)
  have hne2 : ba ≠ bl := hne.symm
  clear hw1 hown hl ha hn hown1
  go_region_law (refine step_append_sl (w1.alloc (.cells #[.int .u64 (q : Int), .string (st t)] 71)) (by first | exact ⟨0, rfl⟩ | exact ⟨1, rfl⟩ | exact ⟨2, rfl⟩ | exact ⟨3, rfl⟩) rfl (.tmp 6) (.tmp 8) elemRec rfl (World.ownsRow.alloc HO.out _) (Sl.newrec (S := fun _ => True) _ (q, t) rfl trivial) rfl rfl (rcs_one _) (by simp only [maxLen]; omega) (by omega) (by simp; omega) ?_; intro A2 k2 c2 w2 hown2 hg2; have hl2 := (hl1.alloc _).kept (World.ownsRow.alloc HO.out _) hg2 (by decide); have ha2 := (ha1.alloc _).kept (World.ownsRow.alloc HO.out _) hg2 (by decide); have g0 := hl2.free 0; have g1 := ha2.free 0; have g2 := hl2.cell 0; have g3 := ha2.cell 0; simp at g2 g3)
  all_goals
    go_wp2_with fail
    go_end0
    exact ⟨rfl, A2, k2, c2, (hl2.put1 _).far (p := ⟨ba, 0, none⟩) hne _, by rw [Int.natCast_add]; exact (ha2.far (p := ⟨bl, 0, none⟩) hne2 _).put1 _, ro_two hown2 hl2 ha2 (by decide) (by decide) hne _ _, ((below_grown_own (q1.alloc hsz _) (World.ownsRow.alloc HO.out _) hg2 (by simp; omega)).setCell hbl _).setCell hba _⟩
end Go.Proofs.YtojlldalhhibmaaGreatDoor

namespace Go.Proofs.YtojlldalhhibmaaGreatDoor
open Go Go.RowKit
set_option linter.unusedVariables false

theorem Ro.nil (w : World) (B : Nat) : Ro w B (.slice none 0 0) [] := World.ownsRow_nil w B _ 2
theorem Ro.later {w w' : World} {B : Nat} {v : Value} {rs : List (Nat × List UInt8)} (h : Ro w B v rs) (hb : Below w.heap.size w w') : Ro w' B v rs := by
  obtain ⟨h1, h2⟩ := h
  refine ⟨h1, ?_⟩
  rcases h2 with h2 | ⟨g, cap, cur, hv, hg, hh, r⟩
  · exact .inl h2
  · exact .inr ⟨g, cap, cur, hv, hg, (hb.block g (lt_of_block hh)).trans hh, r⟩
theorem Ro.len {w : World} {B : Nat} {A : Option Addr} {k c : Nat} {rs : List (Nat × List UInt8)} (h : Ro w B (.slice A k c) rs) : k = rs.length := own_len h

theorem recScan_none {k : Nat} {l : List UInt8} {f : Nat} (h : recGet l = none) : recScan (k + 1) l f = ([], 0) := by rw [recScan, h]
theorem recScan_other {k : Nat} {l : List UInt8} {f : Nat} {r : Nat × List UInt8} {n : Nat} (h : recGet l = some (r, n)) (hq : ¬ r.1 = f % U64) : recScan (k + 1) l f = ([], 0) := by
  rw [recScan, h]; simp only; rw [if_neg hq]
theorem recScan_some {k : Nat} {l : List UInt8} {f : Nat} {r : Nat × List UInt8} {n : Nat} (h : recGet l = some (r, n)) (hq : r.1 = f % U64) :
    recScan (k + 1) l f = (r :: (recScan k (l.drop n) (f + 1)).1, n + (recScan k (l.drop n) (f + 1)).2) := by
  rw [recScan, h]; simp only; rw [if_pos hq]

/-- What holds behind i rounds: these records, so many bytes. -/
structure ScSt (l : List UInt8) (first i : Nat) (rs : List (Nat × List UInt8)) (a : Nat) : Prop where
  le : a ≤ l.length
  len : rs.length ≤ i
  all : recScan l.length l first = (rs ++ (recScan (l.length - i) (l.drop a) (first + i)).1, a + (recScan (l.length - i) (l.drop a) (first + i)).2)
theorem ScSt.zero (l : List UInt8) (first : Nat) : ScSt l first 0 [] 0 := ⟨Nat.zero_le _, Nat.le_refl _, by simp⟩
theorem ScSt.stop {l : List UInt8} {first i : Nat} {rs : List (Nat × List UInt8)} {a : Nat} (h : ScSt l first i rs a) (hi : i < l.length) (hn : recScan (l.length - i - 1 + 1) (l.drop a) (first + i) = ([], 0)) : recScan l.length l first = (rs, a) := by
  rw [h.all, show l.length - i = l.length - i - 1 + 1 by omega, hn]; simp
theorem ScSt.next {l : List UInt8} {first i : Nat} {rs : List (Nat × List UInt8)} {a : Nat} (h : ScSt l first i rs a) (hi : i < l.length) {r : Nat × List UInt8} {n : Nat} (hg : recGet (l.drop a) = some (r, n)) (hq : r.1 = (first + i) % U64) : ScSt l first (i + 1) (rs ++ [r]) (a + n) := by
  have hn := recGet_len hg
  rw [List.length_drop] at hn
  refine ⟨by have := h.le; omega, by have := h.len; rw [List.length_append, List.length_singleton]; omega, ?_⟩
  rw [h.all, show l.length - i = l.length - (i + 1) + 1 by omega, recScan_some hg hq, List.drop_drop, ← Nat.add_assoc]
  simp [Nat.add_assoc]
theorem ScSt.end {l : List UInt8} {first : Nat} {rs : List (Nat × List UInt8)} {a : Nat} (h : ScSt l first l.length rs a) : recScan l.length l first = (rs, a) := by
  rw [h.all, Nat.sub_self, recScan]; simp

theorem u64_add (a b : Nat) : IntKind.u64.wrap ((a : Int) + (b : Int)) = (((a + b) % U64 : Nat) : Int) := by
  simp only [IntKind.wrap, IntKind.bits, IntKind.signed]
  rw [Int.natCast_emod]
  rfl

set_option maxHeartbeats 2000000 in
set_option maxRecDepth 100000 in
theorem rscan_any (S : Nat → Prop) (v0 : Value) (l : List UInt8) (first : Nat) (w : World) (hl : l.length ≤ 1099511627776) (hf : first < U64) (hr : Bs S w v0 l) :
    Calls Tryz.prog 47 #[v0, .int .u64 first] w fun e w' => ∃ A k c, e = .returned (.tuple #[.slice A k c, .int .i64 ((recScan l.length l first).2 : Int)]) ∧ Ro w' w.heap.size (.slice A k c) (recScan l.length l first).1 ∧ Below w.heap.size w w' := by
  have HR : Hid (Bs (fun b => b < w.heap.size) w v0 l) := (Sl.lt hr (by omega)).more (fun _ h => h.2)
  obtain ⟨A, c, rfl, hlc, hcm, hA0, hA⟩ := hr.at
  have HA := Lib.hid hA
  have hmf := run_makeFunc Tryz.prog
  have HF : Hid (first < U64) := hf
  have R0 : Blk ((w.alloc (.cells #[.slice none 0 0] 38)).alloc (.cells #[.int .i64 ((0 : Nat) : Int)] 3)) w.heap.size 38 #[.slice none 0 0] ∧
      Blk ((w.alloc (.cells #[.slice none 0 0] 38)).alloc (.cells #[.int .i64 ((0 : Nat) : Int)] 3)) (w.heap.size + 1) 3 #[.int .i64 ((0 : Nat) : Int)] ∧
      Below w.heap.size w ((w.alloc (.cells #[.slice none 0 0] 38)).alloc (.cells #[.int .i64 ((0 : Nat) : Int)] 3)) := by
    refine ⟨(Blk.new w _ _).alloc _, ?_, ((Below.refl _ _).alloc (Nat.le_refl _) _).alloc (by simp) _⟩
    have := Blk.new (w.alloc (.cells #[.slice none 0 0] 38)) 3 #[.int .i64 ((0 : Nat) : Int)]
    simpa using this
  clear hA hr hA0 hf
  go_enter Tryz.func47, Tryz.ntmps47
  go_wp2_with fail
  go_loopw [16] (fun iv wr => ∃ (i : Nat) (A' : Option Addr) (k' c' : Nat) (rs : List (Nat × List UInt8)) (a : Nat), iv = .int .i64 (i : Int) ∧ i ≤ l.length ∧ Blk wr w.heap.size 38 #[.slice A' k' c'] ∧ Blk wr (w.heap.size + 1) 3 #[.int .i64 (a : Int)] ∧
    Ro wr w.heap.size (.slice A' k' c') rs ∧ ScSt l first i rs a ∧ Below w.heap.size w wr) (fun iv _ => l.length - (intOf iv).toNat)
  case atStart => exact ⟨0, none, 0, 0, [], 0, rfl, by omega, R0.1, R0.2.1, Ro.nil _ _, ScSt.zero _ _, R0.2.2⟩
  case round =>
    obtain ⟨i, A', k', c', rs, a, rfl, hi, hbl, hba, hro, hst, hbw⟩ := hrel
    clear R0
    have hsz := hbw.size
    by_cases hil : i < l.length
    · obtain ⟨b, o, rfl, _, _⟩ := HA.out (by omega)
      have hal := hst.le
      have hst0 := hst.len
      have e2 : Hid (a + (l.drop a).length ≤ l.length) := by rw [Hid, List.length_drop]; omega
      have c1 : wr.cell? ⟨w.heap.size + 1, 0, none⟩ = some (.int .i64 (a : Int)) := hba.cell 0
      have hcut := Bs.cut (Sl.below HR.out hbw (fun _ h => h)) hal
      have HST := Lib.hid hst
      have HBL := Lib.hid hbl
      have HBA := Lib.hid hba
      have HRO := Lib.hid hro
      have hdl : (l.drop a).length ≤ 1099511627776 := by rw [List.length_drop]; omega
      clear hst hbl hba hro
      obtain ⟨m, hm⟩ : ∃ m, l.drop a = m := ⟨_, rfl⟩
      have HM := Lib.hid hm
      rw [hm] at hcut hdl e2
      clear hm
      by_cases hca : c = a
      case' pos =>
        rw [if_pos hca] at hcut
        subst hca
        rw [Nat.sub_self, show l.length - c = 0 by omega] at hcut
        have HC := Lib.hid hcut
        clear hcut
        go_wp2_with fail
        refine (rget_any _ _ m wr hdl HC.out).mono ?_
      case' neg =>
        rw [if_neg hca] at hcut
        have HC := Lib.hid hcut
        clear hcut
        go_wp2_with fail
        refine (rget_any _ _ m wr hdl HC.out).mono ?_
      all_goals
        rintro e w1 ⟨rfl, hbl1⟩
        cases hg : recGet m with
        | none =>
          have HE := Lib.hid (HST.out.stop hil (recScan_none (by rw [HM.out]; exact hg)))
          have HRO1 := Lib.hid (HRO.out.later hbl1)
          have hb1 := (HBL.out.later hbl1).alloc (.cells #[.int .u64 0, .string (st [])] 71)
          have hb2 := (HBA.out.later hbl1).alloc (.cells #[.int .u64 0, .string (st [])] 71)
          have e0 : (w1.alloc (.cells #[.int .u64 0, .string (st [])] 71)).cell? ⟨w.heap.size, 0, none⟩ = some (.slice A' k' c') := hb1.cell 0
          have e1 := hb2.cell 0
          have q1 := hbw.trans (hbl1.mono hsz)
          unfold rgetV recV
          clear hbl1 c1 hg
          go_wp2_with fail
          go_quiet (fail)
          go_wp2_with fail
          go_ret2
          rw [HE.out]
          exact ⟨A', k', c', rfl, HRO1.out.later (below_drewN ((Below.refl _ _).alloc (Nat.le_refl _) _) _), below_drewN (q1.alloc q1.size _) _⟩
        | some rn =>
          obtain ⟨⟨q, t⟩, n⟩ := rn
          have hgl := recGet_len hg
          have HRO1 := Lib.hid (HRO.out.later hbl1)
          have hb1 := (HBL.out.later hbl1).alloc (.cells #[.int .u64 (q : Int), .string (st t)] 71)
          have hb2 := (HBA.out.later hbl1).alloc (.cells #[.int .u64 (q : Int), .string (st t)] 71)
          have q1 := hbw.trans (hbl1.mono hsz)
          have hwr : IntKind.u64.wrap ((first : Int) + (i : Int)) = (((first + i) % U64 : Nat) : Int) := u64_add first i
          by_cases hq : q = (first + i) % U64
          · have HE := Lib.hid (HST.out.next hil (r := (q, t)) (n := n) (by rw [HM.out]; exact hg) hq)
            have HM2 := Lib.hid hgl
            rw [← hq] at hwr
            have HRL := Lib.hid hst0
            unfold rgetV recV
            clear hbl1 c1 hg hq
            have q2 := q1.alloc q1.size (.cells #[.int .u64 (q : Int), .string (st t)] 71)
            have hs2 := q2.size
            go_wp2_with fail
            refine (keep_any w.heap.size (w.heap.size + 1) w.heap.size _ _ _ rs (q, t) n _ _ hb1 hb2 (HRO1.out.later ((Below.refl _ _).alloc (Nat.le_refl _) _)) hs2 (Nat.le_refl _) (by omega) (by have := HRL.out; omega) (by have := HM2.out.2; have := e2.out; omega)).mono ?_
            rintro e w3 ⟨rfl, A3, k3, c3, hbl3, hba3, hro3, hbw3⟩
            go_wp2_with fail
            go_roundw
            case rel => exact ⟨i + 1, A3, k3, c3, _, _, by go_num, by omega, hbl3, hba3, hro3, HE.out, q2.trans hbw3⟩
            case measure => simp [intOf]; omega
          · have HE := Lib.hid (HST.out.stop hil (recScan_other (by rw [HM.out]; exact hg) hq))
            have e0 : (w1.alloc (.cells #[.int .u64 (q : Int), .string (st t)] 71)).cell? ⟨w.heap.size, 0, none⟩ = some (.slice A' k' c') := hb1.cell 0
            have e1 := hb2.cell 0
            have t1 : ((q : Int) != (((first + i) % U64 : Nat) : Int)) = true := by rw [bne_iff_ne]; omega
            generalize (first + i) % U64 = fi at *
            unfold rgetV recV
            clear hbl1 c1 hg hq
            go_wp2_with fail
            go_quiet (fail)
            go_wp2_with fail
            go_ret2
            rw [HE.out]
            exact ⟨A', k', c', rfl, HRO1.out.later (below_drewN ((Below.refl _ _).alloc (Nat.le_refl _) _) _), below_drewN (q1.alloc q1.size _) _⟩
    · obtain rfl : i = l.length := by omega
      have HE := Lib.hid hst.end
      have c0 : wr.cell? ⟨w.heap.size, 0, none⟩ = some (.slice A' k' c') := hbl.cell 0
      have c1 : wr.cell? ⟨w.heap.size + 1, 0, none⟩ = some (.int .i64 (a : Int)) := hba.cell 0
      go_wp2_with fail
      go_quiet (fail)
      go_wp2_with fail
      go_ret2
      rw [HE.out]
      exact ⟨A', k', c', rfl, hro, below_drewN hbw _⟩
end Go.Proofs.YtojlldalhhibmaaGreatDoor

namespace Go.Proofs.YtojlldalhhibmaaGreatDoor
open Go Go.RowKit
set_option linter.unusedVariables false

/-- The log's own cells: lv its segments, sv its stream. -/
def lgC (hg : Nat) (a : Int) (n size : Nat) (lv sv : Value) (last synced : Nat) : Array Value :=
  #[.pointer (some ⟨hg, 0, none⟩), .int .i64 a, .int .i64 (n : Int), .int .i64 (size : Int), lv, sv, .int .u64 (last : Int), .int .u64 (synced : Int)]
abbrev Lb (w : World) (gl : Nat) (hg : Nat) (a : Int) (n size : Nat) (lv sv : Value) (last synced : Nat) : Prop := Blk w gl 75 (lgC hg a n size lv sv last synced)

theorem i64_in {x : Int} (h0 : -9223372036854775808 ≤ x) (h1 : x ≤ 9223372036854775807) : IntKind.i64.wrap x = x := by
  simp [IntKind.wrap, IntKind.bits, IntKind.signed]
  omega
/-- What holds behind k sectors. -/
structure BySt (w wr : World) (f : SF) (p : Int) (size k : Nat) (v : Value) (out : List UInt8) : Prop where
  hk : k ≤ size
  all : wBytes f p size = out ++ wBytes f (p + (k : Int)) (size - k)
  len : out.length ≤ 512 * k
  own : Ob 5 wr w.heap.size v out
  below : Below w.heap.size w wr

theorem BySt.full {w wr w2 : World} {f : SF} {p : Int} {size k : Nat} {v v' : Value} {out b : List UInt8} (s : BySt w wr f p size k v out) (hk : k < size) (hb : f (p + (k : Int)) = some b) (hb1 : ¬ b.length < 512) (hb2 : b.length ≤ 512) (ho : Ob 5 w2 w.heap.size v' (out ++ b)) (hq : Below w.heap.size w w2) :
    BySt w w2 f p size (k + 1) v' (out ++ b) := by
  refine ⟨hk, ?_, by rw [List.length_append]; have := s.len; omega, ho, hq⟩
  rw [s.all, show size - k = size - (k + 1) + 1 by omega, wBytes_full hb hb1, List.append_assoc]
  congr 3
  push_cast
  omega

set_option maxHeartbeats 4000000 in
set_option maxRecDepth 100000 in
theorem lgbytes_any (h : Zn) (D : Dsk) (gl : Nat) (a : Int) (n size i : Nat) (lv sv : Value) (last synced : Nat) (w : World) (hd : Dk w h D) (hok : D.Ok) (hl : Lb w gl h.g a n size lv sv last synced) (hs : size ≤ 64) (hi : i ≤ 64) (h0 : 0 ≤ a) (h1 : a ≤ 65536) :
    Calls Tryz.prog 45 #[.pointer (some ⟨gl, 0, none⟩), .int .i64 (i : Int)] w fun e w' => ∃ A k c, e = .returned (.slice A k c) ∧ Ob 5 w' w.heap.size (.slice A k c) (wBytes D.view (a + (i : Int) * size) size) ∧ Below w.heap.size w w' := by
  have HD := Lib.hid hd
  have HOK := Lib.hid hok
  have HL := Lib.hid hl
  have l3 : w.cell? ⟨gl, 3, none⟩ = some (.int .i64 (size : Int)) := hl.cell 3
  clear hd hok hl
  have hmul : (0 : Int) ≤ (i : Int) * size ∧ (i : Int) * size ≤ 4096 := by
    constructor
    · exact Int.mul_nonneg (by omega) (by omega)
    · have : i * size ≤ 64 * 64 := Nat.mul_le_mul hi hs
      have e : ((i * size : Nat) : Int) = (i : Int) * size := by push_cast; rfl
      omega
  go_enter Tryz.func45, Tryz.ntmps45
  go_wp2_with fail
  clear l3
  go_loopw [5, 13] (fun ov kv wr => ∃ (k : Nat) (A : Option Addr) (m c : Nat) (out : List UInt8), ov = .slice A m c ∧ kv = .int .i64 (k : Int) ∧ Hid (BySt w wr D.view (a + (i : Int) * size) size k (.slice A m c) out)) (fun _ kv _ => size - (intOf kv).toNat)
  case atStart => exact ⟨0, none, 0, 0, [], rfl, rfl, ⟨Nat.zero_le _, by simp, by simp, Ob.nil _ _ _, Below.refl _ _⟩⟩
  case round =>
    obtain ⟨k, A, m, c, out, rfl, rfl, B⟩ := hrel
    have hk := B.out.hk
    by_cases hlt : k < size
    · have LR := Lib.hid (HL.out.later B.out.below)
      have l0 : wr.cell? ⟨gl, 0, none⟩ = some (.pointer (some ⟨h.g, 0, none⟩)) := LR.out.cell 0
      have l1 : wr.cell? ⟨gl, 1, none⟩ = some (.int .i64 a) := LR.out.cell 1
      have l3 : wr.cell? ⟨gl, 3, none⟩ = some (.int .i64 (size : Int)) := LR.out.cell 3
      have hw1 : IntKind.i64.wrap ((i : Int) * size) = (i : Int) * size := i64_in (by omega) (by omega)
      have hw2 : IntKind.i64.wrap (a + (i : Int) * size) = a + (i : Int) * size := i64_in (by omega) (by omega)
      have hw3 : IntKind.i64.wrap (a + (i : Int) * size + k) = a + (i : Int) * size + k := i64_in (by omega) (by omega)
      go_wp2_with fail
      have HDR := Lib.hid (below_drewN (Below.refl wr.heap.size wr) 1)
      cases hv : D.view (a + (i : Int) * size + k) with
      | none =>
        go_region_held3 (fun w' => w'.cell? ⟨gl, 0, none⟩ = some (.pointer (some ⟨h.g, 0, none⟩)) ∧ w'.cell? ⟨gl, 1, none⟩ = some (.int .i64 a) ∧ w'.cell? ⟨gl, 3, none⟩ = some (.int .i64 (size : Int)))
          (first
            | go_keep
            | (go_split_ands
               refine ⟨?_, ?_, ?_⟩ <;> (apply cell_later hb4; assumption)))
          ((first
            | (go_at_call 65; refine (dread_any h D (a + (i : Int) * size + k) _ ((HD.out.later B.out.below).later (below_drewN (Below.refl _ _) 1)) HOK.out (by unfold InI; omega)).mono ?_; rintro e w4 ⟨hsome, hnone, hb4⟩; obtain rfl := hnone hv)))
        have hall := B.out.all
        rw [show size - k = size - k - 1 + 1 by omega, wBytes_none hv, List.append_nil] at hall
        have q := (B.out.below).trans ((HDR.out.trans hb4).mono B.out.below.size)
        have ho := B.out.own.later (HDR.out.trans hb4)
        clear hsome hnone hb4 l0 l1 l3 hw1 hw2 hw3
        go_wp2_with fail
        go_ret
        exact ⟨_, _, _, rfl, by rw [hall]; exact ho, q⟩
      | some b =>
        go_region_held3 (fun w' => w'.cell? ⟨gl, 0, none⟩ = some (.pointer (some ⟨h.g, 0, none⟩)) ∧ w'.cell? ⟨gl, 1, none⟩ = some (.int .i64 a) ∧ w'.cell? ⟨gl, 3, none⟩ = some (.int .i64 (size : Int)))
          (first
            | go_keep
            | (go_split_ands
               refine ⟨?_, ?_, ?_⟩ <;> (apply cell_later hb4; assumption)))
          ((first
            | (go_at_call 65; refine (dread_any h D (a + (i : Int) * size + k) _ ((HD.out.later B.out.below).later (below_drewN (Below.refl _ _) 1)) HOK.out (by unfold InI; omega)).mono ?_; rintro e w4 ⟨hsome, hnone, hb4⟩; obtain ⟨Ab, cb, rfl, hob⟩ := hsome _ hv)))
        have hb2 : b.length ≤ 512 := (HOK.out.view.at hv).2.2
        have q := (B.out.below).trans ((HDR.out.trans hb4).mono B.out.below.size)
        have ho := Lib.hid (B.out.own.later (HDR.out.trans hb4))
        have hbs := Lib.hid hob.bs
        clear hsome hnone hb4 l0 l1 l3 hw1 hw2 hw3 hob
        have hlen := B.out.len
        by_cases hb5 : b.length < 512
        · have hall := B.out.all
          rw [show size - k = size - k - 1 + 1 by omega, wBytes_short hv hb5] at hall
          go_wp2_with (at_builtin; (refine wpList_append_bs _ rfl (.tmp 39) (.tmp 40) elemU8 rfl ho.out hbs.out rfl rfl (by have := B.out.len; omega) q.size ?_); intro A5 k5 c5 w5 hown5 hg5 hat5)
          have q5 := below_grown_own q ho.out hg5 q.size
          go_ret
          exact ⟨_, _, _, rfl, by rw [hall]; exact hown5, q5⟩
        · go_wp2_with (at_builtin; (refine wpList_append_bs _ rfl (.tmp 39) (.tmp 40) elemU8 rfl ho.out hbs.out rfl rfl (by have := B.out.len; omega) q.size ?_); intro A5 k5 c5 w5 hown5 hg5 hat5)
          have q5 := below_grown_own q ho.out hg5 q.size
          go_roundw
          case rel => exact ⟨k + 1, A5, k5, c5, out ++ b, rfl, by go_num, B.out.full hlt hv hb5 hb2 hown5 q5⟩
          case measure => simp [intOf]; omega
    · obtain rfl : k = size := by omega
      have hall := B.out.all
      rw [Nat.sub_self, wBytes, List.append_nil] at hall
      go_wp2_with fail
      go_ret
      exact ⟨_, _, _, rfl, by rw [hall]; exact B.out.own, B.out.below⟩
end Go.Proofs.YtojlldalhhibmaaGreatDoor
