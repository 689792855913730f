/- What the proof of PagePuts needs, part 11. -/
import Derived.Test.YtlidbgidbpaenaaDoorPagePutsJ10
import Derived.Lib.AppendZeros

namespace Go.Proofs.YtlidbgidbpaenaaDoor
open Go Go.RowKit
set_option linter.unusedVariables false

set_option maxHeartbeats 1000000 in
set_option maxRecDepth 100000 in
theorem pequal_any (S S' : Nat → Prop) (va vb : Value) (us vs : List Cel) (w : World) (ha : Cs S w va us) (hb : Cs S' w vb vs) :
    Calls Tryd.prog 57 #[va, vb] w fun e w' => e = .returned (.bool (decide (us = vs))) ∧ Below w.heap.size w w' := by
  obtain ⟨A, c, rfl, hlc, hcm, hA0, hA⟩ := ha.at
  obtain ⟨B, d, rfl, hld, hdm, hB0, hB⟩ := hb.at
  have HA := Lib.hid hA
  have HB := Lib.hid hB
  have hm : us.length ≤ 9223372036854775807 := by unfold maxLen at hcm; omega
  clear hA hB ha hb
  by_cases hlen : us.length = vs.length
  · have HL := Lib.hid hlen
    have hlen1 : us.length ≤ vs.length := by omega
    have hlen2 : ((us.length : Int) != (vs.length : Int)) = false := by rw [hlen]; simp
    clear hlen
    go_enter Tryd.func57, Tryd.ntmps57
    go_wp2_with fail
    go_loopw [13] (fun iv wr => ∃ i : Nat, iv = .int .i64 (i : Int) ∧ i ≤ us.length ∧ Hid (us.take i = vs.take i) ∧ ∃ n, wr = w.drewN n) (fun iv _ => us.length - (intOf iv).toNat)
    case atStart => exact ⟨0, rfl, by omega, by simp [Hid], 0, rfl⟩
    case round =>
      obtain ⟨i, rfl, hi, ht, n, rfl⟩ := hrel
      by_cases hil : i < us.length
      · obtain ⟨b, o, rfl, _, hca⟩ := HA.out (by omega)
        obtain ⟨b', o', rfl, _, hcb⟩ := HB.out (by omega)
        have hvl : i < vs.length := by omega
        have c0 := (hca i hil).1
        have c1 := (hca i hil).2
        have d0 := (hcb i hvl).1
        have d1 := (hcb i hvl).2
        have HS : Hid (us[i] = vs[i] → us.take (i + 1) = vs.take (i + 1)) := fun h => by rw [List.take_succ_eq_append_getElem hil, List.take_succ_eq_append_getElem hvl, h, ht.out]
        have HN : Hid (us[i] ≠ vs[i] → decide (us = vs) = false) := fun h => decide_eq_false (fun e => h (by subst e; rfl))
        clear hca hcb
        generalize us[i] = x at *
        generalize vs[i] = y at *
        obtain ⟨q, t⟩ := x
        obtain ⟨q', t'⟩ := y
        simp only at c0 c1 d0 d1
        by_cases hxy : q = q' ∧ t = t'
        · obtain ⟨rfl, rfl⟩ := hxy
          have HE := Lib.hid (HS.out rfl)
          go_wp2_with fail
          go_quiet (fail)
          go_wp2_with fail
          go_roundw
          case rel => exact ⟨i + 1, by go_num, by omega, HE, _, rfl⟩
          case measure => simp [intOf]; omega
        · have HE := Lib.hid (HN.out (fun e => hxy (by injection e with a b; exact ⟨a, b⟩)))
          by_cases hq : q = q'
          · subst hq
            have ht' : ¬ t = t' := fun e => hxy ⟨rfl, e⟩
            go_wp2_with fail
            go_quiet (fail)
            go_wp2_with fail
            go_ret
            exact ⟨by rw [HE.out]; rfl, below_drewN (below_drewN (Below.refl _ _) _) _⟩
          · go_wp2_with fail
            go_quiet (fail)
            go_wp2_with fail
            go_ret
            exact ⟨by rw [HE.out]; rfl, below_drewN (below_drewN (Below.refl _ _) _) _⟩
      · obtain rfl : i = us.length := by omega
        have HE : Hid (decide (us = vs) = true) := by
          have := ht.out
          rw [List.take_length, HL.out, List.take_length] at this
          simp [Hid, this]
        go_wp2_with fail
        go_ret
        exact ⟨by rw [HE.out]; rfl, below_drewN (Below.refl _ _) _⟩
  · have HE : Hid (decide (us = vs) = false) := decide_eq_false (fun e => hlen (by rw [e]))
    have t1 : ((us.length : Int) != (vs.length : Int)) = true := by rw [bne_iff_ne]; omega
    clear hlen
    go_enter Tryd.func57, Tryd.ntmps57
    go_wp2_with fail
    go_ret
    exact ⟨by rw [HE.out]; rfl, Below.refl _ _⟩

set_option maxHeartbeats 1000000 in
set_option maxRecDepth 100000 in
theorem psame_at (R : Bool) (S S' : Nat → Prop) (l1 l2 : Bool) (n1 n2 : Int) (va vb : Value) (us vs : List Cel) (w : World) (ha : Cs S w va us) (hb : Cs S' w vb vs) (hR : R = decide (l1 = l2 ∧ n1 = n2 ∧ us = vs)) :
    Calls Tryd.prog 27 #[.agg #[.bool l1, .int .i64 n1, va], .agg #[.bool l2, .int .i64 n2, vb]] w fun e w' => e = .returned (.bool R) ∧ Below w.heap.size w w' := by
  have HA := Lib.hid ha.lt
  have HB := Lib.hid hb.lt
  obtain ⟨A, c, rfl, _⟩ := ha.at
  obtain ⟨B, d, rfl, _⟩ := hb.at
  clear ha hb
  have q2 : Below w.heap.size w ((w.alloc (.cells #[.bool l1, .int .i64 n1, .slice A us.length c] 24)).alloc (.cells #[.bool l2, .int .i64 n2, .slice B vs.length d] 24)) := ((Below.refl _ _).alloc (Nat.le_refl _) _).alloc (by simp) _
  have b1 : Blk ((w.alloc (.cells #[.bool l1, .int .i64 n1, .slice A us.length c] 24)).alloc (.cells #[.bool l2, .int .i64 n2, .slice B vs.length d] 24)) w.heap.size 24 #[.bool l1, .int .i64 n1, .slice A us.length c] := (Blk.new _ _ _).alloc _
  have b2 : Blk ((w.alloc (.cells #[.bool l1, .int .i64 n1, .slice A us.length c] 24)).alloc (.cells #[.bool l2, .int .i64 n2, .slice B vs.length d] 24)) (w.heap.size + 1) 24 #[.bool l2, .int .i64 n2, .slice B vs.length d] := Blk.new1 _ _ _ _
  have HC := Lib.hid (pequal_any _ _ _ _ us vs _ (HA.out.up q2) (HB.out.up q2))
  by_cases h1 : l1 = l2
  · subst h1
    by_cases h2 : n1 = n2
    · subst h2
      have HD : Hid (decide (us = vs) = R) := by rw [Hid, hR]; simp
      clear hR
      cases l1
      all_goals
        go_enter Tryd.func27, Tryd.ntmps27
        go_wp2_with fail
        refine HC.out.mono ?_
        rintro e w1 ⟨rfl, hbl1⟩
        rw [HD.out]
        go_wp2_with fail
        go_ret
        exact ⟨by simp, q2.trans (hbl1.mono q2.size)⟩
    · have HD : Hid (R = false) := hR.trans (decide_eq_false (fun h => h2 h.2.1))
      clear hR
      have t2 : (n1 == n2) = false := by rw [beq_eq_false_iff_ne]; exact h2
      clear h2
      cases l1
      all_goals
        go_enter Tryd.func27, Tryd.ntmps27
        go_wp2_with fail
        go_ret
        rw [HD.out]
        exact ⟨rfl, q2⟩
  · have HD : Hid (R = false) := hR.trans (decide_eq_false (fun h => h1 h.1))
    clear hR
    cases l1 <;> cases l2
    case' false.false => exact absurd rfl h1
    case' true.true => exact absurd rfl h1
    all_goals
      go_enter Tryd.func27, Tryd.ntmps27
      go_wp2_with fail
      go_ret
      rw [HD.out]
      exact ⟨rfl, q2⟩

theorem psame_any (S S' : Nat → Prop) (l1 l2 : Bool) (n1 n2 : Int) (va vb : Value) (us vs : List Cel) (w : World) (ha : Cs S w va us) (hb : Cs S' w vb vs) :
    Calls Tryd.prog 27 #[.agg #[.bool l1, .int .i64 n1, va], .agg #[.bool l2, .int .i64 n2, vb]] w fun e w' => e = .returned (.bool (decide (l1 = l2 ∧ n1 = n2 ∧ us = vs))) ∧ Below w.heap.size w w' :=
  psame_at _ S S' l1 l2 n1 n2 va vb us vs w ha hb rfl

set_option maxHeartbeats 1000000 in
set_option maxRecDepth 100000 in
theorem pgrow_any (n : Nat) (w : World) (hn : n ≤ 2000000) :
    Calls Tryd.prog 71 #[.slice none 0 0, .int .i64 (n : Int)] w fun e w' => ∃ A c, e = .returned (.slice A 0 c) ∧ Co w' w.heap.size (.slice A 0 c) [] ∧ Below w.heap.size w w' := by
  rcases Nat.eq_zero_or_pos n with rfl | h0
  · go_enter Tryd.func71, Tryd.ntmps71
    go_wp2_with fail
    go_ret
    exact ⟨none, 0, rfl, Co.nil _ _, Below.refl _ _⟩
  · obtain ⟨i0, hi, hz, hsz, hby⟩ := elemCel.info
    have h := fun w => Lib.run_append_nil_zeros (P := Tryd.prog) w 22 3 22 47 i0 (.agg #[.string ⟨#[]⟩, .string ⟨#[]⟩]) .i64 .i64 Tryd.underlying22 Tryd.underlying3 hi hz n h0 (by omega) (by omega) (by rw [hby]; omega)
    have hcap := grownCap_ge w n 0 47
    have hcap2 := grownCap_le_maxLen w n 0 47 (by simp only [maxLen]; omega)
    have hw1 : IntKind.i64.wrap (n : Int) = (n : Int) := IntWalk.i64_in _ (by omega)
    go_enter Tryd.func71, Tryd.ntmps71
    go_wp2_with (at_builtin; refine Lib.wpList_append_run _ rfl (.tmp 20) (.tmp 21) _ _ rfl _ _ rfl rfl _ _ (h _) ?_)
    go_ret
    refine ⟨_, _, rfl, ?_, ((Below.refl _ _).alloc (Nat.le_refl _) _).drew⟩
    refine World.ownsRow_made w _ _ (Nat.le_refl _) hcap2 ?_
    simp only [Builtin.zeroCells, Array.size_append, Array.size_map, Array.size_range]
    show n * 2 + (grownCap w n 0 47 - n) * 2 = grownCap w n 0 47 * 2
    omega

set_option maxHeartbeats 2000000 in
set_option maxRecDepth 100000 in
theorem pconcat_any (gb : Nat) (v1 v2 : Value) (us vs : List Cel) (w : World) (hu : us.length ≤ 1000000) (hv : vs.length ≤ 1000000) (hb : Blk w gb 22 #[v1, v2])
    (h1 : Cs (fun b => b < w.heap.size) w v1 us) (h2 : Cs (fun b => b < w.heap.size) w v2 vs) :
    Calls Tryd.prog 56 #[.slice (some ⟨gb, 0, none⟩) 2 2] w fun e w' => ∃ A c, e = .returned (.slice A (us ++ vs).length c) ∧ Co w' w.heap.size (.slice A (us ++ vs).length c) (us ++ vs) ∧ Below w.heap.size w w' := by
  have H1 := Lib.hid h1
  have H2 := Lib.hid h2
  have HB := Lib.hid hb
  obtain ⟨A, c, rfl, _⟩ := h1.at
  obtain ⟨A', c', rfl, _⟩ := h2.at
  have c0 : w.cell? ⟨gb, 0, none⟩ = some (.slice A us.length c) := hb.cell 0
  have c1 : w.cell? ⟨gb, 1, none⟩ = some (.slice A' vs.length c') := hb.cell 1
  clear h1 h2 hb
  go_enter Tryd.func56, Tryd.ntmps56
  go_wp2_with fail
  go_loop [3, 11] (fun sv iv => (iv = .int .i64 0 ∧ sv = .int .i64 0) ∨ (iv = .int .i64 1 ∧ sv = .int .i64 (us.length : Int)) ∨ (iv = .int .i64 2 ∧ sv = .int .i64 ((us.length : Int) + (vs.length : Int)))) (fun _ iv => 2 - (intOf iv).toNat)
  case atStart => exact .inl ⟨rfl, rfl⟩
  case round =>
    rcases hrel with ⟨rfl, rfl⟩ | ⟨rfl, rfl⟩ | ⟨rfl, rfl⟩
    · go_wp2_with fail
      go_round
      case rel => exact .inr (.inl ⟨by go_num, by go_num⟩)
      case measure => simp [intOf]
    · go_wp2_with fail
      go_round
      case rel => exact .inr (.inr ⟨by go_num, by go_num⟩)
      case measure => simp [intOf]
    · go_wp2_with fail
      have hgr := pgrow_any (us.length + vs.length) w (by omega)
      rw [Int.natCast_add] at hgr
      refine hgr.mono ?_
      rintro e w1 ⟨A6, c6, rfl, hco6, hbl1⟩
      have HCO := Lib.hid hco6
      clear hgr hco6
      go_wp2_with fail
      obtain ⟨wo, hwo⟩ : ∃ wo : World, wo = w1 := ⟨_, rfl⟩
      subst hwo
      go_loopw [6, 27] (fun ov iv wr => ∃ (A9 : Option Addr) (c9 : Nat) (l : List Cel), ov = .slice A9 l.length c9 ∧ Co wr w.heap.size (.slice A9 l.length c9) l ∧ Below w.heap.size w wr ∧ ((iv = .int .i64 0 ∧ l = []) ∨ (iv = .int .i64 1 ∧ l = us) ∨ (iv = .int .i64 2 ∧ l = us ++ vs))) (fun _ iv _ => 2 - (intOf iv).toNat)
      case atStart => exact ⟨A6, c6, [], rfl, HCO.out, hbl1, .inl ⟨rfl, rfl⟩⟩
      case round =>
        obtain ⟨A9, c9, l, rfl, hco, hbl, hcase⟩ := hrel
        have HC9 := Lib.hid hco
        have g0 := cell_later hbl c0
        have g1 := cell_later hbl c1
        have K1 := Lib.hid (H1.out.later hbl)
        have K2 := Lib.hid (H2.out.later hbl)
        clear hco
        have hsz := hbl.size
        rcases hcase with ⟨rfl, rfl⟩ | ⟨rfl, rfl⟩ | ⟨rfl, rfl⟩
        · go_wp2_with (at_builtin; refine wpList_append_sl _ rfl (.tmp 31) (.tmp 32) elemCel rfl HC9.out K1.out rfl rfl (ccs_one _) (by simp only [maxLen, List.length_nil]; omega) (by simp only [List.length_nil]; omega) hsz ?_; intro A3 k3 c3 w3 hown3 hg3 hat3)
          rw [show ([] : List Cel).length + us.length = us.length by simp, show ccs [] ++ ccs us = ccs us from rfl] at hown3
          obtain rfl := own_len hown3
          go_roundw
          case rel => exact ⟨A3, c3, us, rfl, hown3, hbl.grown hg3 hsz (fun k hk => (World.ownsRow.lt HC9.out k hk).1), .inr (.inl ⟨by go_num, rfl⟩)⟩
          case measure => simp [intOf]
        · go_wp2_with (at_builtin; refine wpList_append_sl _ rfl (.tmp 31) (.tmp 32) elemCel rfl HC9.out K2.out rfl rfl (ccs_one _) (by simp only [maxLen]; omega) (by omega) hsz ?_; intro A3 k3 c3 w3 hown3 hg3 hat3)
          rw [← ccs_append, ← List.length_append] at hown3
          obtain rfl := own_len hown3
          go_roundw
          case rel => exact ⟨A3, c3, l ++ vs, rfl, hown3, hbl.grown hg3 hsz (fun k hk => (World.ownsRow.lt HC9.out k hk).1), .inr (.inr ⟨by go_num, rfl⟩)⟩
          case measure => simp [intOf]
        · go_wp2_with fail
          go_ret
          exact ⟨A9, c9, rfl, HC9.out, hbl⟩
end Go.Proofs.YtlidbgidbpaenaaDoor
