/- lapstoneref07: Same, Scan: what they return. -/
import Derived.Test.YtikpjikfbgjdfaaDoorRecR
namespace Go.Proofs.YtikpjikfbgjdfaaDoor
open Go Go.RowKit
set_option linter.unusedVariables false

theorem rcs_at {rs : List (Nat × List UInt8)} {j : Nat} (h : j < rs.length) : (rcs rs)[j * 2]? = some (.int .u64 (rs[j].1 : Int)) ∧ (rcs rs)[j * 2 + 1]? = some (.string (st rs[j].2)) := by
  induction rs generalizing j with
  | nil => simp at h
  | cons r rs ih =>
    rcases j with _ | j
    · simp [rcs]
    · have := ih (j := j) (by simpa using h)
      simp only [rcs, List.flatMap_cons] at this ⊢
      rw [show (j + 1) * 2 = j * 2 + 1 + 1 by omega]
      simpa using this

set_option maxHeartbeats 1000000 in
set_option maxRecDepth 100000 in
theorem rsame_any (S S' : Nat → Prop) (va vb : Value) (us vs : List (Nat × List UInt8)) (w : World) (ha : Sl S w 2 va us.length (rcs us)) (hb : Sl S' w 2 vb vs.length (rcs vs)) :
    Calls Tryd.prog 16 #[va, vb] w fun e w' => e = .returned (.bool (decide (us = vs))) ∧ ∃ n, w' = w.drewN n := by
  obtain ⟨_, A, c, rfl, hlc, hcm, hA0, hA⟩ := ha
  obtain ⟨_, B, d, rfl, hld, hdm, hB0, hB⟩ := hb
  have HA := Lib.hid hA
  have HB := Lib.hid hB
  have hm : us.length ≤ 9223372036854775807 := by unfold maxLen at hcm; omega
  clear hA hB
  by_cases hlen : us.length = vs.length
  · have HL := Lib.hid hlen
    have hlen1 : us.length ≤ vs.length := by omega
    have hlen2 : ((us.length : Int) != (vs.length : Int)) = false := by rw [hlen]; simp
    clear hlen
    go_enter Tryd.func16, Tryd.ntmps16
    go_wp2_with fail
    go_loopw [5] (fun iv wr => ∃ i : Nat, iv = .int .i64 (i : Int) ∧ i ≤ us.length ∧ Hid (us.take i = vs.take i) ∧ ∃ n, wr = w.drewN n) (fun iv _ => us.length - (intOf iv).toNat)
    case atStart => exact ⟨0, rfl, by omega, by simp [Hid], 0, rfl⟩
    case round =>
      obtain ⟨i, rfl, hi, ht, n, rfl⟩ := hrel
      by_cases hil : i < us.length
      · obtain ⟨b, o, rfl, _, hca⟩ := HA.out (by omega)
        obtain ⟨b', o', rfl, _, hcb⟩ := HB.out (by omega)
        have c0 : w.cell? ⟨b, o + i * 2, none⟩ = some (.int .u64 (us[i].1 : Int)) := hca _ _ (rcs_at hil).1
        have c1 : w.cell? ⟨b, o + i * 2 + 1, none⟩ = some (.string (st us[i].2)) := hca (i * 2 + 1) _ (rcs_at hil).2
        have d0 : w.cell? ⟨b', o' + i * 2, none⟩ = some (.int .u64 (vs[i].1 : Int)) := hcb _ _ (rcs_at (by omega)).1
        have d1 : w.cell? ⟨b', o' + i * 2 + 1, none⟩ = some (.string (st vs[i].2)) := hcb (i * 2 + 1) _ (rcs_at (by omega)).2
        clear hca hcb
        have hvl : i < vs.length := by omega
        have HS : Hid (us[i] = vs[i] → us.take (i + 1) = vs.take (i + 1)) := fun h => by rw [List.take_succ_eq_append_getElem hil, List.take_succ_eq_append_getElem hvl, h, ht.out]
        have HN : Hid (us[i] ≠ vs[i] → decide (us = vs) = false) := fun h => decide_eq_false (fun e => h (by subst e; rfl))
        generalize us[i] = x at *
        generalize vs[i] = y at *
        obtain ⟨q, t⟩ := x
        obtain ⟨q', t'⟩ := y
        simp only at c0 c1 d0 d1
        by_cases hxy : q = q' ∧ t = t'
        · obtain ⟨rfl, rfl⟩ := hxy
          have HE := Lib.hid (HS.out rfl)
          go_wp2_with fail
          go_quiet (fail)
          go_wp2_with fail
          go_roundw
          case rel => exact ⟨i + 1, by go_num, by omega, HE, _, rfl⟩
          case measure => simp [intOf]; omega
        · have HE := Lib.hid (HN.out (fun e => hxy (by injection e with a b; exact ⟨a, b⟩)))
          have hb : decide ((q : Int) = (q' : Int) ∧ t = t') = false := by rw [decide_eq_false_iff_not]; intro h; exact hxy ⟨by omega, h.2⟩
          by_cases hq : q = q'
          · subst hq
            have ht' : ¬ t = t' := fun e => hxy ⟨rfl, e⟩
            go_wp2_with fail
            go_quiet (fail)
            go_wp2_with fail
            go_ret
            exact ⟨by rw [HE.out]; rfl, _, World.drewN_drewN _ _ _⟩
          · have hq' : ¬ (q : Int) = (q' : Int) := by omega
            go_wp2_with fail
            go_quiet (fail)
            go_wp2_with fail
            go_ret
            exact ⟨by rw [HE.out]; rfl, _, World.drewN_drewN _ _ _⟩
      · obtain rfl : i = us.length := by omega
        have HE : Hid (decide (us = vs) = true) := by
          have := ht.out
          rw [List.take_length, HL.out, List.take_length] at this
          simp [Hid, this]
        go_wp2_with fail
        go_ret
        exact ⟨by rw [HE.out]; rfl, n, rfl⟩
  · have HE : Hid (decide (us = vs) = false) := decide_eq_false (fun e => hlen (by rw [e]))
    have t1 : ((us.length : Int) != (vs.length : Int)) = true := by rw [bne_iff_ne]; omega
    clear hlen
    go_enter Tryd.func16, Tryd.ntmps16
    go_wp2_with fail
    go_ret
    exact ⟨by rw [HE.out]; rfl, 0, rfl⟩

/-! ### The document's scan -/
theorem recGet_pos {l : List UInt8} {x : (Nat × List UInt8) × Nat} (h : recGet l = some x) : 8 ≤ x.2 ∧ x.2 ≤ l.length := by
  obtain ⟨r, n⟩ := x
  exact recGet_len h
/-- What holds behind some rounds of the document's scan. -/
structure RcSt (l : List UInt8) (first : Nat) (rs : List (Nat × List UInt8)) (a : Nat) : Prop where
  le : a ≤ l.length
  len : rs.length ≤ a
  all : recScan l.length l first = (rs ++ (recScan (l.length + 1) (l.drop a) (first + rs.length)).1, a + (recScan (l.length + 1) (l.drop a) (first + rs.length)).2)
theorem RcSt.zero (l : List UInt8) (first : Nat) : RcSt l first [] 0 := ⟨Nat.zero_le _, Nat.le_refl _, by simp [recScan_fuel l.length (l.length + 1) l first (Nat.le_refl _) (Nat.le_succ _)]⟩
theorem RcSt.stop {l : List UInt8} {first : Nat} {rs : List (Nat × List UInt8)} {a : Nat} (h : RcSt l first rs a) (hn : recScan (l.length + 1) (l.drop a) (first + rs.length) = ([], 0)) : recScan l.length l first = (rs, a) := by
  rw [h.all, hn]; simp
theorem RcSt.next {l : List UInt8} {first : Nat} {rs : List (Nat × List UInt8)} {a : Nat} (h : RcSt l first rs a) {r : Nat × List UInt8} {n : Nat} (hg : recGet (l.drop a) = some (r, n)) (hq : r.1 = (first + rs.length) % U64) : RcSt l first (rs ++ [r]) (a + n) := by
  have hn := recGet_len hg
  rw [List.length_drop] at hn
  have hle := h.le
  have hlen := h.len
  refine ⟨by omega, by rw [List.length_append, List.length_singleton]; omega, ?_⟩
  rw [h.all, recScan_some hg hq, List.drop_drop, List.length_append, List.length_singleton, ← Nat.add_assoc, recScan_fuel l.length (l.length + 1) (l.drop (a + n)) _ (by rw [List.length_drop]; omega) (by rw [List.length_drop]; omega)]
  simp [Nat.add_assoc]

set_option maxHeartbeats 2000000 in
set_option maxRecDepth 100000 in
theorem refRScan_any (l : List UInt8) (first : Nat) (w : World) (hl : l.length ≤ 1099511627776) (hf : first < U64) :
    Calls Tryd.prog 15 #[.string (st l), .int .u64 first] w fun e w' => ∃ A k c, e = .returned (.tuple #[.slice A k c, .int .i64 ((recScan l.length l first).2 : Int)]) ∧ Ro w' w.heap.size (.slice A k c) (recScan l.length l first).1 ∧ Below w.heap.size w w' := by
  have R0 : Ro (w.alloc (.cells #[] 24)) w.heap.size (.slice (some ⟨w.heap.size, 0, none⟩) 0 0) [] ∧ Below w.heap.size w (w.alloc (.cells #[] 24)) :=
    ⟨World.ownsRow_made w #[] 0 (Nat.le_refl _) (by simp [maxLen]) (by simp), (Below.refl _ _).alloc (Nat.le_refl _) _⟩
  have HF := Lib.hid (Nat.mod_eq_of_lt hf)
  clear hf
  go_enter Tryd.func15, Tryd.ntmps15
  go_wp2_with fail
  go_loopw [1, 6, 7] (fun fv ov av wr => ∃ (A : Option Addr) (k c : Nat) (rs : List (Nat × List UInt8)) (a : Nat), fv = .int .u64 (((first + rs.length) % U64 : Nat) : Int) ∧ ov = .slice A k c ∧ av = .int .i64 (a : Int) ∧ Ro wr w.heap.size (.slice A k c) rs ∧ RcSt l first rs a ∧ Below w.heap.size w wr) (fun _ _ av _ => l.length - (intOf av).toNat)
  case atStart => exact ⟨_, 0, 0, [], 0, by simp [HF.out], rfl, rfl, R0.1, RcSt.zero _ _, R0.2⟩
  case round =>
    obtain ⟨A, k, c, rs, a, rfl, rfl, rfl, hro, hst, hbl⟩ := hrel
    clear R0
    have hle := hst.le
    have hln := hst.len
    have hdl : (l.drop a).length ≤ 1099511627776 := by rw [List.length_drop]; omega
    have hmod : (first + rs.length) % U64 < U64 := Nat.mod_lt _ (by unfold U64; decide)
    have HST := Lib.hid hst
    have hsz := hbl.size
    have HPOS := Lib.hid (fun x (h : recGet (l.drop a) = some x) => recGet_pos h)
    have HDL := Lib.hid (show (l.drop a).length + a ≤ l.length by rw [List.length_drop]; omega)
    obtain ⟨m, hm⟩ : ∃ m, l.drop a = m := ⟨_, rfl⟩
    have HM := Lib.hid hm
    rw [hm] at hdl HPOS HDL
    have HDT : Hid ((l.drop a).take (l.length - a) = m) := (List.take_of_length_le (by simp)).trans hm
    clear hst hm
    have HW := Lib.hid (show ((first + rs.length) % U64 + 1) % U64 = (first + (rs.length + 1)) % U64 by rw [Nat.mod_add_mod, Nat.add_assoc])
    have HRO := Lib.hid hro
    obtain rfl := hro.len
    clear hro
    obtain ⟨F, hF⟩ : ∃ F, (first + rs.length) % U64 = F := ⟨_, rfl⟩
    have HWR : Hid (IntKind.u64.wrap ((F : Int) + 1) = (((first + (rs.length + 1)) % U64 : Nat) : Int)) := by
      have h1 := u64_add F 1
      rw [← hF, HW.out, hF] at h1
      exact h1
    have HF2 := Lib.hid hF
    rw [hF] at hmod ⊢
    clear hF
    go_wp2_with fail
    rw [HDT.out]
    refine (refRGet_any m wr hdl).mono ?_
    rintro e w1 ⟨rfl, hbl1⟩
    have HRO1 := Lib.hid (HRO.out.later hbl1)
    have q1 := hbl.trans (hbl1.mono hsz)
    have hs1 := q1.size
    cases hg : recGet m with
    | none =>
      have HE := Lib.hid (HST.out.stop (recScan_none (by rw [HM.out]; exact hg)))
      unfold rgetV recV
      clear hg hbl1
      go_wp2_with fail
      go_ret2
      rw [HE.out]
      exact ⟨A, rs.length, c, rfl, HRO1.out.later ((Below.refl _ _).alloc (Nat.le_refl _) _), q1.alloc hs1 _⟩
    | some rn =>
      obtain ⟨⟨q, t⟩, n⟩ := rn
      have hpos := HPOS.out _ hg
      simp only at hpos
      have hdl2 := HDL.out
      unfold rgetV recV
      by_cases hq : q = F
      · have HE := Lib.hid (HST.out.next (r := (q, t)) (n := n) (by rw [HM.out]; exact hg) (hq.trans HF2.out.symm))
        subst hq
        have hown := World.ownsRow.alloc (HRO1.out.later ((Below.refl _ _).alloc (Nat.le_refl _) (.cells #[.int .u64 (q : Int), .string (st t)] 24))) (.cells #[.int .u64 (q : Int), .string (st t)] 24)
        have q2 := (q1.alloc hs1 (.cells #[.int .u64 (q : Int), .string (st t)] 24)).alloc (by simp; omega) (.cells #[.int .u64 (q : Int), .string (st t)] 24)
        have HO := Lib.hid hown
        have hwa : IntKind.i64.wrap ((a : Int) + (n : Int)) = ((a + n : Nat) : Int) := by rw [IntWalk.i64_in _ (by omega)]; omega
        clear hg hbl1 hown
        go_wp2_with (at_builtin; go_loud (refine wpList_append_sl _ rfl (.tmp 30) (.tmp 32) elemRec rfl HO.out (Sl.newrec (S := fun _ => True) _ (q, t) (by simp) trivial) rfl rfl (rcs_one _) (by simp only [maxLen]; omega) (by omega) (by simp; omega) ?_); intro A3 k3 c3 w3 hown3 hg3 hat3)
        go_roundw
        case rel =>
          refine ⟨A3, k3, c3, rs ++ [(q, t)], a + n, ?_, rfl, ?_, ?_, HE.out, below_grown_own q2 HO.out hg3 (by simp; omega)⟩
          · rw [List.length_append, List.length_singleton, ← HWR.out]
          · go_num
          · unfold Ro
            rw [rcs_append, List.length_append]
            exact hown3
        case measure => simp [intOf]; omega
      · have HE := Lib.hid (HST.out.stop (recScan_other (by rw [HM.out]; exact hg) (fun e => hq (e.trans HF2.out))))
        have t1 : ((q : Int) != (F : Int)) = true := by rw [bne_iff_ne]; omega
        clear hg hbl1 hq
        go_wp2_with fail
        go_ret2
        rw [HE.out]
        exact ⟨A, rs.length, c, rfl, HRO1.out.later ((Below.refl _ _).alloc (Nat.le_refl _) _), q1.alloc hs1 _⟩
end Go.Proofs.YtikpjikfbgjdfaaDoor
