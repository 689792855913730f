/- num.PutVar, num.Size: what they return. -/
import Derived.Test.YtpmndmgfoiagnaaDoorProg
import Derived.Test.YtpmndmgfoiagnaaDoorNumP
import Derived.Deep.QuietTactic
import Derived.BigQuiet
namespace Go.Proofs.YtpmndmgfoiagnaaDoor
open Go Go.RowKit
set_option linter.unusedVariables false

theorem elemU8 : Elem Tryd.prog 75 5 (.int .u8 0) 1 1 := Elem.mk' Tryd.underlying75 (by kernel_rfl) rfl (by omega)

set_option maxHeartbeats 400000 in
set_option maxRecDepth 100000 in
theorem putVar_any (S : Nat → Prop) (v0 : Value) (l : List UInt8) (x : Nat) (w : World) (hx : x < U64) (hl : (l ++ varB x).length ≤ 1099511627776) (hb : Bs S w v0 l) :
    Calls Tryd.prog 75 #[v0, .int .u64 x] w fun e w' => ∃ A k c, e = .returned (.slice A k c) ∧ Ob 5 w' w.heap.size (.slice A k c) (l ++ varB x) ∧ Below w.heap.size w w' := by
  have HB := Lib.hid hb
  have hvl := varB_len x
  have hlx : l.length ≤ 1099511627776 := by simp at hl; omega
  obtain ⟨A, c, rfl, hlc, hcm, hA0, hA⟩ := hb.at
  clear hA hA0 hb
  go_enter Tryd.func75, Tryd.ntmps75
  go_wp2_with (at_builtin; go_loud (refine wpList_append_bs _ rfl (.tmp 6) (.tmp 7) elemU8 rfl (Ob.made _ _ _ (Nat.le_refl _) (by simp)) (Sl.alloc1 HB.out _) rfl rfl (by simp; omega) (by simp) ?_); intro A1 k1 c1 w1 hown1 hg1 hat1)
  have hbl1 : Below w.heap.size w w1 := below_grown_own ((Below.refl _ _).alloc (Nat.le_refl _) _) (Ob.made _ _ _ (Nat.le_refl _) (by simp)) hg1 (by simp)
  clear hg1 hat1 HB
  go_loopw [1, 5] (fun xv out wr => ∃ y d A k c, xv = .int .u64 ((y : Nat) : Int) ∧ out = .slice A k c ∧ y < U64 ∧ d ++ varB y = l ++ varB x ∧ Ob 5 wr w.heap.size out d ∧ Below w.heap.size w wr) (fun xv _ _ => (intOf xv).toNat)
  case atStart => exact ⟨x, l, _, _, _, rfl, rfl, hx, rfl, hown1, hbl1⟩
  case round =>
    obtain ⟨y, d, A, k, c, rfl, rfl, hy, hd, hown, hbl⟩ := hrel
    have hsz := hbl.size
    have hvy := varB_len y
    have hdl : d.length < (l ++ varB x).length := by rw [← hd]; simp; omega
    have HD := Lib.hid hd
    clear hd
    by_cases h : y < 128
    · go_wp2_with (at_builtin; go_loud (refine wpList_append_bs _ rfl (.tmp 19) (.tmp 22) elemU8 rfl (hown.alloc _) (Bs.one _ _ _ (by omega) (by omega) (by simp)) rfl rfl (by simp; omega) (by simp; omega) ?_); intro A2 k2 c2 w2 hown2 hg2 hat2)
      go_ret
      refine ⟨A2, k2, c2, rfl, ?_, below_grown_own (hbl.alloc hsz _) (hown.alloc _) hg2 (by simp; omega)⟩
      rw [← HD.out, varB_lo h]
      exact hown2
    · have hor := bits_or128 y
      go_wp2_with (at_builtin; go_loud (refine wpList_append_bs _ rfl (.tmp 13) (.tmp 17) elemU8 rfl (hown.alloc _) (Bs.one _ _ _ (by omega) (by omega) (by simp)) rfl rfl (by simp; omega) (by simp; omega) ?_); intro A2 k2 c2 w2 hown2 hg2 hat2)
      go_roundw
      case rel => exact ⟨y / 128, d ++ [UInt8.ofNat (y % 128 + 128)], _, _, _, by go_num, rfl, by omega, by rw [← HD.out, varB_hi h]; simp, by rw [show ((y : Int) % 128 + 128).toNat = y % 128 + 128 from by omega] at hown2; exact hown2, below_grown_own (hbl.alloc hsz _) (hown.alloc _) hg2 (by simp; omega)⟩
      case measure => simp [intOf]; omega

/-- The table of bits reads as it was laid. -/
def BitsOk (w : World) : Prop := ∀ i, i < 9 → w.cell? ⟨0, i, none⟩ = some (.int .u64 ((8 * i : Nat) : Int))
theorem BitsOk.pos {w : World} (h : BitsOk w) : 0 < w.heap.size := World.block_lt_of_cell? w _ (h 0 (by omega))
theorem BitsOk.below {w w' : World} {B : Nat} (h : BitsOk w) (hb : Below B w w') (hB : 0 < B) : BitsOk w' := fun i hi => (hb.cell (p := ⟨0, i, none⟩) hB).trans (h i hi)
theorem BitsOk.later {w w' : World} (h : BitsOk w) (hb : Below w.heap.size w w') : BitsOk w' := h.below hb h.pos

set_option maxHeartbeats 400000 in
theorem put_range (v0 : Value) (x : Nat) (n : Int) (w : World) (hn : n < 1 ∨ 8 < n) :
    Calls Tryd.prog 42 #[v0, .int .u64 x, .int .i64 n] w fun e w' => e = .returned (.tuple #[.slice none 0 0, .int .i64 11]) ∧ Below w.heap.size w w' := by
  rcases hn with hn | hn
  · go_enter Tryd.func42, Tryd.ntmps42
    go_wp2_with fail
    go_quiet (fail)
    go_wp2
    go_ret2
    exact ⟨rfl, below_drewN ((Below.refl _ _).alloc (Nat.le_refl _) _) _⟩
  · have h1 : decide (n < 1) = false := by simp; omega
    go_enter Tryd.func42, Tryd.ntmps42
    go_wp2_with fail
    go_quiet (fail)
    go_wp2
    go_ret2
    exact ⟨rfl, below_drewN ((Below.refl _ _).alloc (Nat.le_refl _) _) _⟩

theorem byte_of_shift (x sh : Nat) : UInt8.ofNat ((x : Int) / 2 ^ sh % 256).toNat = UInt8.ofNat (x / 2 ^ sh) := by
  have e : ((x : Int) / 2 ^ sh % 256) = ((x / 2 ^ sh % 256 : Nat) : Int) := by rw [Int.natCast_emod, Int.natCast_ediv, Int.natCast_pow]; rfl
  rw [e, Int.toNat_natCast]
  apply UInt8.toNat_inj.1
  simp

set_option maxHeartbeats 400000 in
/-- The closure in num.Put: one byte more behind what was put. -/
theorem put1_any (B bo bv x sh : Nat) (s : Int) (hs : s = (sh : Int)) (A : Option Addr) (k c : Nat) (l : List UInt8) (w : World) (ho : Blk w bo 75 #[.slice A k c]) (hv : Blk w bv 41 #[.int .u64 x]) (hown : Ob 5 w B (.slice A k c) l) (hB : B ≤ w.heap.size) (hl : l.length ≤ 2199023255552) (hx : x < U64) (hsh : sh < 64) (hBo : B ≤ bo) :
    Calls Tryd.prog 66 #[.int .u64 s, .pointer (some ⟨bo, 0, none⟩), .pointer (some ⟨bv, 0, none⟩)] w fun e w' => e = .returned (.tuple #[]) ∧ ∃ A' k' c', Blk w' bo 75 #[.slice A' k' c'] ∧ Blk w' bv 41 #[.int .u64 x] ∧ Ob 5 w' B (.slice A' k' c') (l ++ [UInt8.ofNat (x / 2 ^ sh)]) ∧ Below B w w' := by
  subst hs
  have c0 := ho.cell 0
  have c1 := hv.cell 0
  simp at c0 c1
  go_enter Tryd.func66, Tryd.ntmps66
  go_wp2_with (at_builtin; go_loud (refine wpList_append_bs _ rfl (.tmp 4) (.tmp 9) elemU8 rfl (hown.alloc _) (Bs.one _ _ _ (by omega) (by omega) (by simp)) rfl rfl (by simp; omega) (by simp; omega) ?_); intro A2 k2 c2 w2 hown2 hg2 hat2; have ho2 := (ho.alloc _).kept (hown.alloc _) hg2 (by decide); have hv2 := (hv.alloc _).kept (hown.alloc _) hg2 (by decide); have d0 := ho2.cell 0; simp at d0; have d1 := ho2.free 0)
  go_end0
  rw [byte_of_shift] at hown2
  exact ⟨rfl, A2, k2, c2, ho2.put1 _, hv2.far (p := ⟨bo, 0, none⟩) (Blk.ne hv2 ho2 (by decide)) _, own_set hown2 ho2 (by decide) 0 _, (below_grown_own ((Below.refl _ _).alloc hB _) (hown.alloc _) hg2 (by simp; omega)).setCell hBo _⟩

theorem shift_test (x sh : Nat) : (((x : Int) / 2 ^ sh) != 0) = !decide (x / 2 ^ sh = 0) := by
  have e : ((x : Int) / 2 ^ sh) = ((x / 2 ^ sh : Nat) : Int) := by rw [Int.natCast_ediv, Int.natCast_pow]; rfl
  rw [e, bne, Bool.eq_iff_iff]
  simp only [Bool.not_eq_true', beq_eq_false_iff_ne, decide_eq_false_iff_not, ne_eq]
  omega

set_option maxHeartbeats 400000 in
theorem put_over (v0 : Value) (x n : Nat) (w : World) (hn : 1 ≤ n) (hn8 : n < 8) (hx : x < U64) (hv : ¬ x / 2 ^ (8 * n) = 0) (hb : BitsOk w) :
    Calls Tryd.prog 42 #[v0, .int .u64 x, .int .i64 n] w fun e w' => e = .returned (.tuple #[.slice none 0 0, .int .i64 11]) ∧ Below w.heap.size w w' := by
  have h1 : decide ((n : Int) < 1) = false := by simp; omega
  have h2 : decide (8 < (n : Int)) = false := by simp; omega
  have h3 : decide ((n : Int) < 8) = true := by simp; omega
  have h4 : (((x : Int) / 2 ^ (8 * n)) != 0) = true := by rw [shift_test]; simp [hv]
  have hc := hb n (by omega)
  have hp := hb.pos
  clear hv hb
  simp at hc
  go_enter Tryd.func42, Tryd.ntmps42
  go_wp2_with fail
  go_quiet (fail)
  go_wp2
  go_ret2
  exact ⟨rfl, below_drewN ((Below.refl _ _).alloc (Nat.le_refl _) _) _⟩

theorem beB_take_succ (x n k : Nat) (hk : k < n) : (beB x n).take (k + 1) = (beB x n).take k ++ [UInt8.ofNat (x / 2 ^ (8 * (n - 1 - k)))] := by
  rw [List.take_succ_eq_append_getElem (by rw [beB_length]; exact hk)]
  congr 2
  simp only [beB, List.getElem_map, List.getElem_range]
  rw [show (256 : Nat) = 2 ^ 8 from rfl, ← Nat.pow_mul]

set_option maxHeartbeats 1000000 in
set_option maxRecDepth 100000 in
theorem put_ok (S : Nat → Prop) (v0 : Value) (l : List UInt8) (x n : Nat) (w : World) (hn : 1 ≤ n) (hn8 : n ≤ 8) (hx : x < U64) (hv : n < 8 → x / 2 ^ (8 * n) = 0) (hb : BitsOk w) (hl : l.length ≤ 1099511627776) (hr : Bs S w v0 l) :
    Calls Tryd.prog 42 #[v0, .int .u64 x, .int .i64 n] w fun e w' => ∃ A k c, e = .returned (.tuple #[.slice A k c, .int .i64 0]) ∧ Ob 5 w' w.heap.size (.slice A k c) (l ++ beB x n) ∧ Below w.heap.size w w' := by
  have h1 : decide ((n : Int) < 1) = false := by simp; omega
  have h2 : decide (8 < (n : Int)) = false := by simp; omega
  have hmf := run_makeFunc Tryd.prog
  have hp := hb.pos
  have hc : n < 8 → w.cell? ⟨0, n, none⟩ = some (.int .u64 (8 * (n : Int))) := fun h => (hb n (by omega)).trans (by simp)
  obtain ⟨A, c, rfl, hlc, hcm, hA0, hA⟩ := hr.at
  have HR := Lib.hid hr
  have HB := Lib.hid hb
  clear hA hA0 hr hb
  by_cases h8 : n < 8
  case' pos =>
    have h3 : decide ((n : Int) < 8) = true := by simp; omega
    have h4 : (((x : Int) / 2 ^ (8 * n)) != 0) = false := by rw [shift_test]; simp [hv h8]
    have hc := hc h8
    clear hv
    go_enter Tryd.func42, Tryd.ntmps42
    go_wp2_with fail
    go_quiet (fail)
  case' neg =>
    have h3 : decide ((n : Int) < 8) = false := by simp; omega
    clear hc hv
    go_enter Tryd.func42, Tryd.ntmps42
    go_wp2_with fail
    go_quiet (fail)
  all_goals
    go_wp2_with (at_builtin; go_loud (refine wpList_append_bs _ rfl (.tmp 29) (.tmp 30) elemU8 rfl (Ob.made _ _ w.heap.size (by simp) (by simp)) (Sl.alloc1 (Sl.drewN (Sl.alloc1 HR.out _) _) _) rfl rfl (by simp; omega) (by simp; omega) ?_); intro A1 k1 c1 w1 hown1 hg1 hat1)
    have hbl1 : Below w.heap.size w w1 := below_grown_own ((below_drewN ((Below.refl _ _).alloc (Nat.le_refl _) _) _).alloc (by simp) _) (Ob.made _ _ w.heap.size (by simp) (by simp)) hg1 (by simp; omega)
    have hs1 := hbl1.size
    have hv1 : Blk w1 w.heap.size 41 #[.int .u64 x] := (((Blk.new w _ _).drewN _).alloc _).kept (Ob.made _ _ w.heap.size (by simp) (by simp)) hg1 (by decide)
    have hw1 := hv1.lt
    have R0 : Blk (w1.alloc (.cells #[.slice A1 k1 c1] 75)) w1.heap.size 75 #[.slice A1 k1 c1] ∧ Blk (w1.alloc (.cells #[.slice A1 k1 c1] 75)) w.heap.size 41 #[.int .u64 x] ∧
        Ob 5 (w1.alloc (.cells #[.slice A1 k1 c1] 75)) w.heap.size (.slice A1 k1 c1) (l ++ (beB x n).take 0) ∧ Below w.heap.size w (w1.alloc (.cells #[.slice A1 k1 c1] 75)) :=
      ⟨Blk.new _ _ _, hv1.alloc _, by simpa using Ob.alloc hown1 _, hbl1.alloc hs1 _⟩
    clear hown1 hg1 hat1 hv1 hbl1
    go_loopw [34] (fun iv wr => ∃ (i : Nat) (A' : Option Addr) (k' c' : Nat), iv = .int .i64 (i : Int) ∧ i ≤ n ∧ Blk wr w1.heap.size 75 #[.slice A' k' c'] ∧ Blk wr w.heap.size 41 #[.int .u64 x] ∧ Ob 5 wr w.heap.size (.slice A' k' c') (l ++ (beB x n).take i) ∧ Below w.heap.size w wr) (fun iv _ => n - (intOf iv).toNat)
    case atStart => exact ⟨0, A1, k1, c1, rfl, by omega, R0⟩
    case round =>
      obtain ⟨i, A', k', c', rfl, hi, hbo, hbv, hown, hbl⟩ := hrel
      clear R0
      by_cases hin : i < n
      · have hcr : wr.cell? ⟨0, n - 1 - i, none⟩ = some (.int .u64 (((8 * (n - 1 - i) : Nat)) : Int)) := (HB.out.below hbl hp) _ (by omega)
        have hsz := hbl.size
        have HK := Lib.hid (beB_take_succ x n i hin)
        go_wp2_with fail
        refine (put1_any w.heap.size w1.heap.size w.heap.size x (8 * (n - 1 - i)) _ (by simp) A' k' c' _ wr hbo hbv hown hsz (by simp [beB_length]; omega) hx (by omega) hs1).mono ?_
        rintro e w3 ⟨rfl, A3, k3, c3, hbo3, hbv3, hown3, hbl3⟩
        go_wp2
        go_roundw
        case rel => exact ⟨i + 1, A3, k3, c3, by go_num, by omega, hbo3, hbv3, by rw [HK.out, ← List.append_assoc]; exact hown3, hbl.trans hbl3⟩
        case measure => simp [intOf]; omega
      · have c0 := hbo.cell 0
        simp at c0
        go_wp2
        go_ret2
        obtain rfl : i = n := by omega
        rw [List.take_of_length_le (by rw [beB_length]; omega)] at hown
        exact ⟨A', k', c', rfl, hown, hbl⟩

end Go.Proofs.YtpmndmgfoiagnaaDoor
