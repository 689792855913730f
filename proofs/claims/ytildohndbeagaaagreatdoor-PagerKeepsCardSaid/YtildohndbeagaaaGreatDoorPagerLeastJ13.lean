/- What the proof of PagerLeast needs, part 13. -/
import Derived.Test.YtildohndbeagaaaGreatDoorPagerLeastJ6
import Derived.Test.YtildohndbeagaaaGreatDoorPagerLeastJ12
import Derived.Deep.MidRow
import Derived.RegionTactic
import Derived.BigRegion
import Derived.Deep.QuietTactic
import Derived.BigQuiet

namespace Go.Proofs.YtildohndbeagaaaGreatDoor
open Go Go.RowKit
set_option linter.unusedVariables false

/-- The space l lies in block g. -/
def Sp (w : World) (g : Nat) (l : List Bool) : Prop := Blk w g 145 (spC l) ∧ 1 ≤ l.length ∧ l.length ≤ 256
theorem Sp.later {w w' : World} {g : Nat} {l : List Bool} (h : Sp w g l) (hb : Below w.heap.size w w') : Sp w' g l := ⟨h.1.later hb, h.2⟩
theorem Sp.grown {w w' : World} {g : Nat} {l : List Bool} {row : Option Nat} (h : Sp w g l) (hb : w.grownBy w' row) (hg : row ≠ some g) : Sp w' g l := ⟨h.1.grown hb hg, h.2⟩
/-- Only block g was written. -/
theorem grown_set (w : World) (g i : Nat) (u : Value) : w.grownBy (w.setCell ⟨g, i, none⟩ u) (some g) :=
  ⟨rfl, rfl, rfl, by simp, fun k _ hk => heap_setCell_other w ⟨g, i, none⟩ k u (fun e => hk (by simp [e]))⟩
theorem grown_drew {w w' : World} {row : Option Nat} (h : w.grownBy w' row) (n : Nat) : w.grownBy (w'.drewN n) row := ⟨h.os, h.tape, h.output, h.size, h.block⟩

theorem word_test (l : List Bool) (k : Nat) (hk : k < l.length) : (bits .and .u64 ((wordAt l (k / 64) : Int) / 2 ^ (k % 64)) 1 == 1) = l.getD k false := by
  have hw := wordAt_lt l (k / 64)
  have hb := wordAt_bit l (k / 64) (k % 64) (by omega)
  rw [show 64 * (k / 64) + k % 64 = k by omega] at hb
  have e : ((wordAt l (k / 64) : Int) / 2 ^ (k % 64)) = ((wordAt l (k / 64) / 2 ^ (k % 64) : Nat) : Int) := by rw [Int.natCast_ediv, Int.natCast_pow]; rfl
  have hle : wordAt l (k / 64) / 2 ^ (k % 64) ≤ wordAt l (k / 64) := Nat.div_le_self _ _
  have h := u64_and_nat (wordAt l (k / 64) / 2 ^ (k % 64)) 1 (by omega) (by omega)
  rw [e, show (1 : Int) = ((1 : Nat) : Int) from rfl, h, Nat.and_one_is_mod, ← hb, Nat.testBit_eq_decide_div_mod_eq]
  rcases Nat.mod_two_eq_zero_or_one (wordAt l (k / 64) / 2 ^ (k % 64)) with h | h <;> rw [h] <;> rfl

set_option maxHeartbeats 400000 in
theorem has_any (g : Nat) (l : List Bool) (p : Int) (w : World) (hs : Sp w g l) (hp : -9223372036854775808 ≤ p ∧ p ≤ 9223372036854775807) :
    Calls Tryz.prog 76 #[.pointer (some ⟨g, 0, none⟩), .int .i64 p] w fun e w' => e = .returned (.bool (hasB l p)) ∧ w = w' := by
  obtain ⟨hb, hl1, hl2⟩ := hs
  have c0 := hb.cell 0
  have hc0 : w.cell? ⟨g, 0, none⟩ = some (.int .i64 (l.length : Int)) := c0
  clear c0
  by_cases h0 : 0 ≤ p
  · by_cases h1 : p < (l.length : Int)
    · obtain ⟨k, rfl⟩ : ∃ k : Nat, p = (k : Int) := ⟨p.toNat, by omega⟩
      have hk : k < l.length := by omega
      have hcw : w.cell? ⟨g, 1 + k / 64, none⟩ = some (.int .u64 (wordAt l (k / 64) : Int)) := (hb.cell _).trans (spC_word l _ (by omega))
      have HT := Lib.hid (word_test l k hk)
      have HH := Lib.hid (hasB_nat l k)
      clear hb h0 h1
      go_enter Tryz.func76, Tryz.ntmps76
      go_wp2_with fail
      go_ret
      rw [HH.out, ← HT.out]
      exact ⟨rfl, rfl⟩
    · have HH : Hid (hasB l p = false) := by unfold hasB; rw [show decide (p < (l.length : Int)) = false by rw [decide_eq_false_iff_not]; exact h1]; simp [Hid]
      clear hb
      go_enter Tryz.func76, Tryz.ntmps76
      go_wp2_with fail
      go_ret
      rw [HH.out]
      exact ⟨rfl, rfl⟩
  · have HH : Hid (hasB l p = false) := by unfold hasB; rw [show decide (0 ≤ p) = false by rw [decide_eq_false_iff_not]; exact h0]; simp [Hid]
    clear hb
    go_enter Tryz.func76, Tryz.ntmps76
    go_wp2_with fail
    go_ret
    rw [HH.out]
    exact ⟨rfl, rfl⟩

theorem xor_word (l : List Bool) (k : Nat) : bits .xor .u64 (wordAt l (k / 64) : Int) (IntKind.u64.wrap ((2 : Int) ^ (k % 64))) = ((wordAt l (k / 64) ^^^ 2 ^ (k % 64) : Nat) : Int) := by
  have h1 : 2 ^ (k % 64) < 18446744073709551616 := Nat.pow_lt_pow_right (a := 2) (m := k % 64) (n := 64) (by omega) (by omega)
  have h2 := bits_xor_u64_nat (wordAt l (k / 64)) (2 ^ (k % 64)) (wordAt_lt _ _) h1
  have h3 : IntKind.u64.wrap ((2 : Int) ^ (k % 64)) = ((2 ^ (k % 64) : Nat) : Int) := by
    have e : ((2 : Int) ^ (k % 64)) = ((2 ^ (k % 64) : Nat) : Int) := by rw [Int.natCast_pow]; rfl
    rw [e]
    generalize 2 ^ (k % 64) = q at *
    exact wrap_u64 (by omega) (by unfold U64; omega)
  rw [h3]
  exact h2
set_option maxHeartbeats 1000000 in
theorem turn_any (g : Nat) (l : List Bool) (k : Nat) (w : World) (hs : Sp w g l) (hk : k < l.length) :
    Calls Tryz.prog 77 #[.pointer (some ⟨g, 0, none⟩), .int .i64 k] w fun e w' => e = .returned (.tuple #[]) ∧ Sp w' g (flipAt l k) ∧ w.grownBy w' (some g) ∧ w'.heap.size = w.heap.size := by
  obtain ⟨hb, hl1, hl2⟩ := hs
  have hcw : w.cell? ⟨g, 1 + k / 64, none⟩ = some (.int .u64 (wordAt l (k / 64) : Int)) := (hb.cell _).trans (spC_word l _ (by omega))
  have hfz := hb.free (1 + k / 64)
  have HX := Lib.hid (xor_word l k)
  have hk4 : k / 64 < 4 := by omega
  have HB := Lib.hid hb
  clear hb
  go_enter Tryz.func77, Tryz.ntmps77
  go_wp2_with fail
  go_region
  go_end0
  rw [HX.out]
  refine ⟨rfl, ⟨?_, by rw [flipAt_length]; exact hl1, by rw [flipAt_length]; exact hl2⟩, grown_drew (grown_set _ _ _ _) 1, by simp⟩
  rw [← spC_flip l k hk (by omega)]
  exact (HB.out.put (1 + k / 64) _).drew

/-- Only the space in block g was written: it is l now. -/
def SpPost (g : Nat) (l : List Bool) (w w' : World) : Prop := Sp w' g l ∧ w.grownBy w' (some g) ∧ w'.heap.size = w.heap.size
theorem SpPost.same {g : Nat} {l : List Bool} {w : World} (h : Sp w g l) : SpPost g l w w := ⟨h, World.grownBy.refl w _, rfl⟩

set_option maxHeartbeats 400000 in
theorem claim_any (g : Nat) (l : List Bool) (p : Int) (w : World) (hs : Sp w g l) (hp : -9223372036854775808 ≤ p ∧ p ≤ 9223372036854775807) :
    Calls Tryz.prog 56 #[.pointer (some ⟨g, 0, none⟩), .int .i64 p] w fun e w' => e = .returned (.int .i64 ((claimB l p).2 : Int)) ∧ SpPost g (claimB l p).1 w w' := by
  have HS := Lib.hid hs
  have hc0 : w.cell? ⟨g, 0, none⟩ = some (.int .i64 (l.length : Int)) := hs.1.cell 0
  obtain ⟨hb, hl1, hl2⟩ := hs
  clear hb
  by_cases h0 : p < 0
  · have HC : Hid (claimB l p = (l, 92)) := by unfold claimB; rw [if_pos (.inl h0)]; rfl
    go_enter Tryz.func56, Tryz.ntmps56
    go_wp2_with fail
    go_ret
    rw [HC.out]
    exact ⟨rfl, .same HS.out⟩
  · by_cases h1 : (l.length : Int) ≤ p
    · have HC : Hid (claimB l p = (l, 92)) := by unfold claimB; rw [if_pos (.inr (.inl h1))]; rfl
      go_enter Tryz.func56, Tryz.ntmps56
      go_wp2_with fail
      go_ret
      rw [HC.out]
      exact ⟨rfl, .same HS.out⟩
    · obtain ⟨k, rfl⟩ : ∃ k : Nat, p = (k : Int) := ⟨p.toNat, by omega⟩
      have hk : k < l.length := by omega
      cases hh : hasB l (k : Int)
      · have HC : Hid (claimB l k = (flipAt l k, 0)) := by unfold claimB; rw [if_neg (by rw [hh]; intro h; rcases h with h | h | h; omega; omega; cases h)]; rfl
        have HH := Lib.hid hh
        clear hh
        go_enter Tryz.func56, Tryz.ntmps56
        go_wp2_with fail
        refine (has_any g l k w HS.out hp).mono ?_
        rintro e w1 ⟨rfl, rfl⟩
        rw [HH.out]
        go_wp2_with fail
        refine (turn_any g l k w HS.out hk).mono ?_
        rintro e w1 ⟨rfl, hsp, hgr, hsz⟩
        go_wp2_with fail
        go_ret
        rw [HC.out]
        exact ⟨rfl, hsp, hgr, hsz⟩
      · have HC : Hid (claimB l k = (l, 92)) := by unfold claimB; rw [if_pos (.inr (.inr hh))]; rfl
        have HH := Lib.hid hh
        clear hh
        go_enter Tryz.func56, Tryz.ntmps56
        go_wp2_with fail
        refine (has_any g l k w HS.out hp).mono ?_
        rintro e w1 ⟨rfl, rfl⟩
        rw [HH.out]
        go_wp2_with fail
        go_ret
        rw [HC.out]
        exact ⟨rfl, .same HS.out⟩
theorem hasB_in {l : List Bool} {p : Int} (h : hasB l p = true) : ∃ k : Nat, p = (k : Int) ∧ k < l.length := by
  unfold hasB at h
  simp only [Bool.and_eq_true, decide_eq_true_eq] at h
  exact ⟨p.toNat, by omega, by omega⟩
/-- The words, as a value. -/
def spV (l : List Bool) : Array Value := #[.int .u64 (wordAt l 0 : Int), .int .u64 (wordAt l 1 : Int), .int .u64 (wordAt l 2 : Int), .int .u64 (wordAt l 3 : Int)]
theorem infoWords : (Tryz.prog.info? 143).map (·.size) = some 4 := by kernel_rfl
theorem Sp.range {w : World} {g : Nat} {l : List Bool} (h : Sp w g l) : w.rangeAt g 1 (spV l).toList := by
  intro j v hv
  have hc := h.1.cell (1 + j)
  rw [hc]
  match j with
  | 0 | 1 | 2 | 3 => simpa [spV, spC] using hv
  | j + 4 => simp [spV] at hv

theorem word_index (l : List Bool) (i : Nat) (h : i < 4) (w : World) : (Instr.index 143 (.agg (spV l)) (.int .i64 (i : Int))).run Tryz.prog w = .ok (.int .u64 (wordAt l i : Int)) w := by
  have i0 : ∀ w, (Instr.index 143 (.agg (spV l)) (.int .i64 0)).run Tryz.prog w = .ok (.int .u64 (wordAt l 0 : Int)) w := fun _ => by kernel_rfl
  have i1 : ∀ w, (Instr.index 143 (.agg (spV l)) (.int .i64 1)).run Tryz.prog w = .ok (.int .u64 (wordAt l 1 : Int)) w := fun _ => by kernel_rfl
  have i2 : ∀ w, (Instr.index 143 (.agg (spV l)) (.int .i64 2)).run Tryz.prog w = .ok (.int .u64 (wordAt l 2 : Int)) w := fun _ => by kernel_rfl
  have i3 : ∀ w, (Instr.index 143 (.agg (spV l)) (.int .i64 3)).run Tryz.prog w = .ok (.int .u64 (wordAt l 3 : Int)) w := fun _ => by kernel_rfl
  have hc : i = 0 ∨ i = 1 ∨ i = 2 ∨ i = 3 := by omega
  rcases hc with rfl | rfl | rfl | rfl
  · exact i0 w
  · exact i1 w
  · exact i2 w
  · exact i3 w
theorem count_le (l : List Bool) (m : Nat) : (l.take m).count true ≤ l.length := Nat.le_trans List.count_le_length (by rw [List.length_take]; omega)

theorem u64_notw (t : Nat) (h : t < 18446744073709551616) : bits .xor .u64 IntKind.u64.max (t : Int) = ((18446744073709551615 - t : Nat) : Int) := by
  have e : IntKind.u64.max = ((18446744073709551615 : Nat) : Int) := rfl
  rw [e, bits_xor_u64_nat _ _ (by omega) h]
  congr 1
  have h2 : (18446744073709551615 : Nat) = (BitVec.allOnes 64).toNat := rfl
  have h3 : t = (BitVec.ofNat 64 t).toNat := by rw [BitVec.toNat_ofNat]; omega
  rw [h3, h2, ← BitVec.toNat_xor]
  have h4 : BitVec.allOnes 64 ^^^ BitVec.ofNat 64 t = ~~~(BitVec.ofNat 64 t) := BitVec.allOnes_xor
  rw [h4, BitVec.toNat_not]
  rfl

set_option maxHeartbeats 1000000 in
set_option maxRecDepth 100000 in
theorem take_any (g : Nat) (l : List Bool) (w : World) (hT : TabOk w) (hs : Sp w g l) :
    Calls Tryz.prog 64 #[.pointer (some ⟨g, 0, none⟩)] w fun e w' => e = .returned (.tuple #[.int .i64 ((takeB l).2.1 : Int), .int .i64 ((takeB l).2.2 : Int)]) ∧ SpPost g (takeB l).1 w w' := by
  have HS := Lib.hid hs
  have HT := Lib.hid hT
  have hc0 : w.cell? ⟨g, 0, none⟩ = some (.int .i64 (l.length : Int)) := hs.1.cell 0
  have hrg := hs.range
  obtain ⟨hb, hl1, hl2⟩ := hs
  clear hb hT
  go_enter Tryz.func64, Tryz.ntmps64
  go_wp2_with (refine wpList_load_mid rfl _ (.tmp 9) rfl g 1 rfl (spV l).toList _ hrg Tryz.underlying143 rfl infoWords ?_)
  go_loop [4, 5, 6, 11] (fun _ _ _ iv => ∃ i : Nat, iv = .int .i64 (i : Int) ∧ i ≤ 4 ∧ Hid (allSet l (64 * i))) (fun _ _ _ iv => 4 - (intOf iv).toNat)
  case atStart => exact ⟨0, rfl, by omega, fun k hk _ => absurd hk (by omega)⟩
  case round =>
    obtain ⟨i, rfl, hi, HA⟩ := hrel
    by_cases hlt : i < 4
    · have hix := word_index l i hlt
      have hwl := wordAt_lt l i
      have hn := u64_notw _ hwl
      by_cases hfull : wordAt l i = 18446744073709551615
      · have HA2 := Lib.hid (word_full HA.out hfull)
        rw [hfull, show ((18446744073709551615 - 18446744073709551615 : Nat) : Int) = 0 from rfl] at hn
        rw [hfull] at hix
        have ht := Lib.hid (tz64_zero w)
        clear hfull hwl
        go_wp2_with fail
        refine ht.out.mono ?_
        rintro e w1 ⟨rfl, rfl⟩
        go_wp2_with fail
        go_round
        case rel => exact ⟨i + 1, by go_num, by omega, HA2⟩
        case measure => simp [intOf]; omega
      · obtain ⟨c, hc, hc64, hall, hfr⟩ := word_free HA.out hfull
        have ht := Lib.hid (tz64_any (18446744073709551615 - wordAt l i) w HT.out (by omega) (by omega))
        rw [hc] at ht
        have hm0 : 18446744073709551615 - wordAt l i ≠ 0 := by omega
        generalize 18446744073709551615 - wordAt l i = m at *
        have tm : ((m : Int) == 0) = false := by rw [beq_eq_false_iff_ne]; omega
        have tm2 : ((m : Int) != 0) = true := by rw [bne_iff_ne]; omega
        have HALL := Lib.hid hall
        have HFR := Lib.hid hfr
        clear hc hall hfr hfull
        by_cases hpg : 64 * i + c < l.length
        · have HTK : Hid (takeB l = (flipAt l (64 * i + c), 64 * i + c, 0)) := by unfold takeB; rw [firstFree_some hpg HFR.out HALL.out]; rfl
          go_wp2_with fail
          refine ht.out.mono ?_
          rintro e w1 ⟨rfl, rfl⟩
          go_wp2_with fail
          have htn := turn_any g l (64 * i + c) w HS.out hpg
          rw [show (((64 * i + c : Nat)) : Int) = 64 * (i : Int) + (c : Int) by omega] at htn
          refine htn.mono ?_
          rintro e w1 ⟨rfl, hsp, hgr, hsz⟩
          go_wp2_with fail
          go_ret2
          rw [HTK.out]
          exact ⟨by simp, hsp, hgr, hsz⟩
        · have HA2 : Hid (allSet l (64 * (i + 1))) := fun k hk hkl => HALL.out k (by omega) hkl
          go_wp2_with fail
          refine ht.out.mono ?_
          rintro e w1 ⟨rfl, rfl⟩
          go_wp2_with fail
          go_round
          case rel => exact ⟨i + 1, by go_num, by omega, HA2⟩
          case measure => simp [intOf]; omega
    · obtain rfl : i = 4 := by omega
      have HTK : Hid (takeB l = (l, 0, 91)) := by unfold takeB; rw [firstFree_none (fun k hk hkl => HA.out k (by omega) hkl)]; rfl
      go_wp2_with fail
      go_ret2
      rw [HTK.out]
      exact ⟨rfl, .same HS.out⟩

set_option maxHeartbeats 400000 in
theorem new_bad (n : Int) (w : World) (h : n < 1 ∨ 256 < n) :
    Calls Tryz.prog 53 #[.int .i64 n] w fun e w' => e = .returned (.tuple #[.pointer none, .int .i64 90]) ∧ w = w' := by
  rcases h with h | h
  · go_enter Tryz.func53, Tryz.ntmps53
    go_wp2_with fail
    go_ret2
    exact ⟨rfl, rfl⟩
  · have h1 : ¬ n < 1 := by omega
    go_enter Tryz.func53, Tryz.ntmps53
    go_wp2_with fail
    go_ret2
    exact ⟨rfl, rfl⟩
theorem spC_new (n : Nat) : spC (List.replicate n false) = #[.int .i64 (n : Int), .int .u64 0, .int .u64 0, .int .u64 0, .int .u64 0] := by
  have h : ∀ i, wordAt (List.replicate n false) i = 0 := by
    intro i
    apply Nat.eq_of_testBit_eq
    intro j
    rw [Nat.zero_testBit]
    unfold wordAt
    rw [wordL_bit, List.getD_eq_getElem?_getD, List.getElem?_take]
    split
    · rw [List.getElem?_drop, List.getElem?_replicate]
      split <;> rfl
    · rfl
  unfold spC
  rw [h, h, h, h, List.length_replicate]
  rfl
set_option maxHeartbeats 400000 in
theorem new_ok (n : Nat) (w : World) (h1 : 1 ≤ n) (h2 : n ≤ 256) :
    Calls Tryz.prog 53 #[.int .i64 n] w fun e w' => e = .returned (.tuple #[.pointer (some ⟨w.heap.size, 0, none⟩), .int .i64 0]) ∧ Sp w' w.heap.size (List.replicate n false) ∧ Below w.heap.size w w' := by
  go_enter Tryz.func53, Tryz.ntmps53
  go_wp2_with fail
  go_ret2
  refine ⟨rfl, ⟨?_, by simpa using h1, by simpa using h2⟩, (Below.refl _ _).alloc (Nat.le_refl _) _⟩
  rw [spC_new]
  exact Blk.new _ _ _
end Go.Proofs.YtildohndbeagaaaGreatDoor
