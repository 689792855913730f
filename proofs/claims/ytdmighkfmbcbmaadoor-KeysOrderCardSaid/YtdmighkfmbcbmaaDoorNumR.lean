/- The document's answers for numbers as bytes (lapstoneref01): what they return. -/
import Derived.Test.YtdmighkfmbcbmaaDoorNumC
import Derived.Test.YtdmighkfmbcbmaaDoorStr
import Derived.Test.YtdmighkfmbcbmaaDoorTy
namespace Go.Proofs.YtdmighkfmbcbmaaDoor
open Go Go.RowKit
set_option linter.unusedVariables false


theorem st_empty : (⟨#[]⟩ : ByteArray) = st [] := rfl

/-- One byte more ahead: the number is divided. -/
theorem beB_front (x : Nat) : ∀ (i : Nat), beB x (i + 1) = UInt8.ofNat (x / 256 ^ i) :: beB x i := by
  intro i
  unfold beB
  rw [List.range_succ_eq_map, List.map_cons, List.map_map]
  congr 1
  apply List.map_congr_left
  intro k hk
  have hk := List.mem_range.1 hk
  simp only [Function.comp]
  rw [show i + 1 - 1 - (k + 1) = i - 1 - k from by omega]

set_option maxHeartbeats 400000 in
theorem refPut_range (x : Nat) (n : Int) (w : World) (hn : n < 1 ∨ 8 < n) :
    Calls Tryd.prog 26 #[.int .u64 x, .int .i64 n] w fun e w' => e = .returned (.tuple #[.string (st []), .bool false]) ∧ w = w' := by
  rcases hn with hn | hn
  · go_enter Tryd.func26, Tryd.ntmps26
    go_wp2
    go_ret2
    exact ⟨rfl, rfl⟩
  · have h1 : ¬ n < 1 := by omega
    go_enter Tryd.func26, Tryd.ntmps26
    go_wp2
    go_ret2
    exact ⟨rfl, rfl⟩

set_option maxHeartbeats 400000 in
set_option maxRecDepth 100000 in
theorem refPut_any (x n : Nat) (w : World) (hx : x < U64) (hn : 1 ≤ n) (hn8 : n ≤ 8) :
    Calls Tryd.prog 26 #[.int .u64 x, .int .i64 n] w fun e w' => e = .returned (.tuple #[.string (st (beB x n)), .bool (decide (x < 256 ^ n))]) ∧ Below w.heap.size w w' := by
  have h1 : ¬ (n : Int) < 1 := by omega
  have h2 : ¬ 8 < (n : Int) := by omega
  have he : Hid ((⟨#[]⟩ : ByteArray) = st []) := st_empty
  go_enter Tryd.func26, Tryd.ntmps26
  go_wp2_with fail
  rw [he.out]
  go_loopw [0, 6, 7] (fun xv sv iv wr => ∃ y i d, xv = .int .u64 ((y : Nat) : Int) ∧ sv = .string (st d) ∧ iv = .int .i64 ((i : Nat) : Int) ∧ y < U64 ∧ i ≤ n ∧ Hid (d = beB x i) ∧ Hid (y = x / 256 ^ i) ∧ d.length ≤ 8 ∧ Below w.heap.size w wr) (fun _ _ iv _ => n - (intOf iv).toNat)
  case atStart => exact ⟨x, 0, [], rfl, rfl, rfl, hx, by omega, rfl, by simp [Hid], by simp, Below.refl _ _⟩
  case round =>
    obtain ⟨y, i, d, rfl, rfl, rfl, hy, hi, hd, hyx, hdl, hbl⟩ := hrel
    have hsz := hbl.size
    by_cases hin : i < n
    · obtain ⟨q, hq⟩ : ∃ q, q = UInt8.ofNat y := ⟨_, rfl⟩
      have hq1 := wrap_u64 (n := (y : Int) / 256) (by omega) (by omega)
      have hw : IntKind.u8.wrap ((y : Int) % 256) = (y : Int) % 256 := by rw [IntKind.wrap_u8']; omega
      have hcv := conv1 (P := Tryd.prog) tB tU tS wr ((y : Int) % 256) q (by omega) (by omega) (by rw [hq]; simp; omega)
      have HD : Hid (q :: d = beB x (i + 1)) := by rw [beB_front, hq, hyx.out, hd.out]; rfl
      have HL : (q :: d).length ≤ 8 := by rw [HD.out, beB_length]; omega
      have HY : Hid (y / 256 = x / 256 ^ (i + 1)) := by rw [hyx.out, Nat.div_div_eq_div_mul, Nat.pow_succ]; rfl
      clear hq
      go_wp2_with fail
      go_roundw
      case rel => exact ⟨y / 256, i + 1, q :: d, by go_num, rfl, by go_num, by omega, by omega, HD, HY, HL, hbl.alloc hsz _⟩
      case measure => simp [intOf]; omega
    · obtain rfl : i = n := by omega
      have hz : ((y : Int) == 0) = decide (x < 256 ^ i) := by
        have h1 := hyx.out
        have h3 : 0 < 256 ^ i := Nat.pow_pos (by omega)
        have h2 : x / 256 ^ i = 0 ↔ x < 256 ^ i := by rw [Nat.div_eq_zero_iff]; omega
        rw [← h1] at h2
        rw [Bool.eq_iff_iff, beq_iff_eq, decide_eq_true_eq, ← h2]
        omega
      go_wp2_with fail
      go_ret2
      rw [← hd.out]
      exact ⟨rfl, hbl⟩

def refVal : Except Nat (Nat × Nat) → Ending
  | .ok (v, n) => .returned (.tuple #[.int .u64 (v : Int), .int .i64 (n : Int), .int .i64 0])
  | .error e => .returned (.tuple #[.int .u64 0, .int .i64 0, .int .i64 (e : Int)])

set_option maxHeartbeats 400000 in
set_option maxRecDepth 100000 in
theorem refGet_any (l : List UInt8) (w : World) (hl : l.length ≤ 8) :
    Calls Tryd.prog 23 #[.string (st l)] w fun e w' => e = .returned (.int .u64 (deB l : Int)) ∧ w = w' := by
  go_enter Tryd.func23, Tryd.ntmps23
  go_wp2_with fail
  go_loop [3, 4] (fun av iv => ∃ (i a : Nat), iv = .int .i64 (i : Int) ∧ av = .int .u64 (a : Int) ∧ i ≤ l.length ∧ Hid (a = deB (l.take i))) (fun _ iv => l.length - (intOf iv).toNat)
  case atStart => exact ⟨0, 0, rfl, rfl, by omega, by simp [Hid, deB]⟩
  case round =>
    obtain ⟨i, a, rfl, rfl, hi, hg⟩ := hrel
    by_cases hin : i < l.length
    · obtain ⟨x, hx⟩ : ∃ x, x = l[i].toNat := ⟨_, rfl⟩
      have hx256 : x < 256 := hx ▸ l[i].toNat_lt
      have hs := deB_take_succ hin
      rw [← hx] at hs
      have hxi : (l[i].toNat : Int) = (x : Int) := by rw [hx]
      have ha : a < 256 ^ i := by rw [hg.out]; exact deB_take_lt l i
      have h7 : 256 ^ i ≤ 256 ^ 7 := Nat.pow_le_pow_right (by omega) (by omega)
      have e0 : IntKind.u64.wrap (256 * (a : Int)) = 256 * (a : Int) := wrap_u64 (by omega) (by unfold U64; omega)
      have e1 : IntKind.u64.wrap (256 * (a : Int) + (x : Int)) = 256 * (a : Int) + (x : Int) := wrap_u64 (by omega) (by unfold U64; omega)
      have HY : Hid (a * 256 + x = deB (l.take (i + 1))) := by show _ = _; rw [hs, ← hg.out]
      clear hs hx h7 ha
      go_wp2_with fail
      go_round
      case rel => exact ⟨i + 1, a * 256 + x, by go_num, by go_num, by omega, HY⟩
      case measure => simp [intOf]; omega
    · obtain rfl : i = l.length := by omega
      have HG : Hid (a = deB l) := by have := hg.out; rwa [List.take_length] at this
      clear hg
      go_wp2_with fail
      go_ret
      exact ⟨by rw [← HG.out]; rfl, rfl⟩

end Go.Proofs.YtdmighkfmbcbmaaDoor
