/- What the proof of WalPlays needs, part 12. -/
import Derived.Test.YtojlldalhhibmaaGreatDoorWalPlaysJ5
import Derived.Test.YtojlldalhhibmaaGreatDoorWalPlaysJ7
import Derived.Test.YtojlldalhhibmaaGreatDoorWalPlaysJ10
import Derived.Test.YtojlldalhhibmaaGreatDoorWalPlaysJ11
import Derived.Deep.RegionHeld3

namespace Go.Proofs.YtojlldalhhibmaaGreatDoor
open Go Go.RowKit
set_option linter.unusedVariables false

def refRPutV (q : Nat) (t : List UInt8) : Value := if 32768 < t.length then .tuple #[.string (st []), .int .i64 70] else .tuple #[.string (st (recB q t)), .int .i64 0]

set_option maxHeartbeats 1000000 in
set_option maxRecDepth 100000 in
theorem refRPut_any (q : Nat) (t : List UInt8) (w : World) (hq : q < U64) (ht : t.length ≤ 1099511627776) :
    Calls Tryz.prog 34 #[.agg #[.int .u64 (q : Int), .string (st t)]] w fun e w' => e = .returned (refRPutV q t) ∧ Below w.heap.size w w' := by
  have hb0 := Blk.new w 71 #[.int .u64 (q : Int), .string (st t)]
  have q0 : Below w.heap.size w (w.alloc (.cells #[.int .u64 (q : Int), .string (st t)] 71)) := (Below.refl _ _).alloc (Nat.le_refl _) _
  have d0 : (w.alloc (.cells #[.int .u64 (q : Int), .string (st t)] 71)).cell? ⟨w.heap.size, 0, none⟩ = some (.int .u64 (q : Int)) := hb0.cell 0
  have d1 : (w.alloc (.cells #[.int .u64 (q : Int), .string (st t)] 71)).cell? ⟨w.heap.size, 1, none⟩ = some (.string (st t)) := hb0.cell 1
  by_cases hl : 32768 < t.length
  · have HV : Hid (refRPutV q t = .tuple #[.string (st []), .int .i64 70]) := by unfold refRPutV; rw [Hid, if_pos hl]
    go_enter Tryz.func34, Tryz.ntmps34
    go_wp2_with fail
    go_ret2
    rw [HV.out]
    exact ⟨rfl, q0⟩
  · have HV : Hid (refRPutV q t = .tuple #[.string (st (recB q t)), .int .i64 0]) := by unfold refRPutV; rw [Hid, if_neg hl]
    have HF := Lib.hid (recF_len hq (show t.length ≤ 32768 by omega))
    have hv1 := varB_le10 hq
    have htx := textB_len (s := t) (by omega)
    have hfl : (varB q ++ textB t).length ≤ 1099511627776 := by rw [List.length_append]; omega
    have hadd : ¬ 9223372036854775807 < (varB q).length + (textB t).length := by omega
    have hs := fun (wg : World) => refSeal_any (varB q ++ textB t) wg hfl
    have HR : Hid (beB (recS q t).length 4 ++ recS q t = recB q t) := rfl
    have HL : (recS q t).length ≤ 32804 := by rw [recS_len]; have := HF.out; omega
    rw [show varB q ++ textB t ++ beB (sumOf (varB q ++ textB t)).toNat 4 = recS q t from rfl] at hs
    generalize recS q t = sl at *
    have hwr : IntKind.u64.wrap (sl.length : Int) = (sl.length : Int) := wrap_u64 (by omega) (by unfold U64; omega)
    have hb4 : (beB sl.length 4).length = 4 := beB_length _ _
    go_enter Tryz.func34, Tryz.ntmps34
    go_wp2_with fail
    refine wp_region_grow_lit (by kernel_rfl) (by kernel_rfl) ?_
    apply Exists.intro
    apply And.intro
    · repeat (first
        | (apply wpGrow_skip rfl
           intro K hK
           go_simp
           refine hK _ ?_
           clear hK K)
        | (apply wpGrow_is rfl
           · intro wg hwg _
             have c0 := cell_later hwg d0
             have c1 := cell_later hwg d1
             unfold grows
             go_simp
             first
               | exact grows_value _ _
               | (apply grows_call; go_at_call 56; exact refVar_any q wg hq)
               | (apply grows_call; go_at_call 57; exact refText_any t wg ht)
               | (apply grows_call; go_at_call 55; exact hs wg)
           intro K hK
           go_simp
           refine hK _ ?_
           clear hK K))
      refine wpGrow_end (fun wg hwg _ => ?_)
      go_wp2_with fail
      refine (refPut_any sl.length 4 wg (by unfold U64; omega) (by omega) (by omega)).mono ?_
      rintro e w2 ⟨rfl, hbl2⟩
      go_wp2_with fail
      go_ret2
      rw [HV.out, HR.out]
      exact ⟨rfl, (q0.trans (hwg.mono q0.size)).trans (hbl2.mono (q0.trans (hwg.mono q0.size)).size)⟩
    · apply And.intro
      · repeat (first | exact trivial | (refine ⟨Stays.is _, ?_⟩) | (refine ⟨Stays.bs _, ?_⟩) | (refine ⟨Stays.pg _ _ _, ?_⟩))
      · rfl

theorem rdNum_numV (f : List UInt8) : rdNum f 0 = numV f := by
  unfold rdNum numV
  rw [if_neg (by simp)]
  cases getVarB f with
  | error er => rfl
  | ok xn => rfl
theorem recIn_num {f : List UInt8} {n q : Nat} {r : List UInt8} {er : Nat} (h : rdNum f 0 = (q, r, er)) :
    recIn f n = if er = 0 ∧ (rdText r 0).2.2 = 0 ∧ (rdText r 0).2.1 = [] ∧ (rdText r 0).1.length ≤ 32768 then some ((q, (rdText r 0).1), 4 + n) else none := by
  unfold recIn
  rw [h]
  simp only
  by_cases he : er = 0
  · subst he
    by_cases hc : (rdText r 0).2.2 = 0 ∧ (rdText r 0).2.1 = [] ∧ (rdText r 0).1.length ≤ 32768
    · rw [if_pos hc, if_pos ⟨rfl, hc⟩]
    · rw [if_neg hc, if_neg (fun h => hc h.2)]
  · have e : rdText r er = ([], r, er) := by unfold rdText; rw [if_pos he]
    rw [e, if_neg (fun h => he h.1), if_neg (fun h => he h.1)]

set_option maxHeartbeats 4000000 in
set_option maxRecDepth 100000 in
theorem refRGet_any (l : List UInt8) (w : World) (hl : l.length ≤ 1099511627776) :
    Calls Tryz.prog 52 #[.string (st l)] w fun e w' => e = .returned (rgetV (recGet l)) ∧ Below w.heap.size w w' := by
  have hb0 := (Blk.new w 71 #[.int .u64 0, .string ⟨#[]⟩]).alloc (.cells #[.int .u64 0, .string ⟨#[]⟩] 71)
  have hb1 := Blk.new (w.alloc (.cells #[.int .u64 0, .string ⟨#[]⟩] 71)) 71 #[.int .u64 0, .string ⟨#[]⟩]
  rw [show (w.alloc (.cells #[.int .u64 0, .string ⟨#[]⟩] 71)).heap.size = w.heap.size + 1 by simp] at hb1
  have q0 : Below w.heap.size w ((w.alloc (.cells #[.int .u64 0, .string ⟨#[]⟩] 71)).alloc (.cells #[.int .u64 0, .string ⟨#[]⟩] 71)) := ((Below.refl _ _).alloc (Nat.le_refl _) _).alloc (by simp) _
  by_cases h4 : l.length < 4
  · have HN : Hid (recGet l = none) := by unfold recGet; rw [Hid, if_pos (.inl h4)]
    go_enter Tryz.func52, Tryz.ntmps52
    go_wp2_with fail
    exact bodyPost_ret (results_cell3 rfl _ _ w.heap.size rfl hb0 recTy) rfl ⟨by rw [HN.out]; rfl, q0⟩
  · have h4' : 4 ≤ l.length := by omega
    have ht4 : (l.take 4).length = 4 := by rw [List.length_take]; omega
    have hG0 : ¬ (l.drop 4).length < deB (l.take 4) → recGet l = recOp (l.drop 4) (deB (l.take 4)) := fun h => recGet_op (by omega)
    go_enter Tryz.func52, Tryz.ntmps52
    go_wp2_with fail
    have HG := Lib.hid hG0
    generalize hW : (w.alloc (.cells #[.int .u64 0, .string ⟨#[]⟩] 71)).alloc (.cells #[.int .u64 0, .string ⟨#[]⟩] 71) = W at *
    clear hW hG0
    refine (refGet_any (l.take 4) W (by omega)).mono ?_
    rintro e w1 ⟨rfl, rfl⟩
    have hd4 : deB (l.take 4) < 4294967296 := Nat.lt_of_lt_of_le (deB_take_lt l 4) (by decide)
    have HLN := Lib.hid (show (l.drop 4).length = l.length - 4 by rw [List.length_drop])
    have hwl : IntKind.u64.wrap ((l.length : Int) - 4) = ((l.length - 4 : Nat) : Int) := by rw [show ((l.length : Int) - 4) = ((l.length - 4 : Nat) : Int) by omega]; exact wrap_u64 (by omega) (by unfold U64; omega)
    by_cases hn : l.length - 4 < deB (l.take 4)
    · have HN : Hid (recGet l = none) := by unfold recGet; rw [Hid, if_pos (.inr (by rw [HLN.out]; exact hn))]
      have d0 := hb1.cell 0
      have c0 := hb0.cell 0
      have f0 := hb0.free 0
      have d1 := hb1.cell 1
      have c1 := hb0.cell 1
      have f1 := hb0.free 1
      simp at d0 d1 c0 c1
      generalize deB (l.take 4) = n at *
      have t0 : decide (l.length - 4 < n) = true := by rw [decide_eq_true_eq]; exact hn
      go_wp2_with fail
      exact bodyPost_ret (results_cell3 rfl _ _ w.heap.size rfl (hb0.put2 _ _) recTy) rfl ⟨by rw [HN.out]; rfl, (q0.setCell (Nat.le_refl _) _).setCell (Nat.le_refl _) _⟩
    · have hG := HG.out (by rw [HLN.out]; exact hn)
      have HG2 := Lib.hid hG
      have hdl : (l.drop 4).length ≤ 1099511627776 := by rw [List.length_drop]; omega
      have HT := Lib.hid (show ((l.drop 4).take (deB (l.take 4))).length ≤ 1099511627776 by rw [List.length_take]; omega)
      have hn2 : 4 + deB (l.take 4) ≤ l.length := by omega
      have t0 : decide (l.length - 4 < deB (l.take 4)) = false := by rw [decide_eq_false_iff_not]; exact hn
      have hwn : IntKind.i64.wrap (4 + (deB (l.take 4) : Int)) = 4 + (deB (l.take 4) : Int) := IntWalk.i64_in _ (by omega)
      have hwn2 : IntKind.i64.wrap (deB (l.take 4) : Int) = (deB (l.take 4) : Int) := IntWalk.i64_in _ (by omega)
      have hwn3 : IntKind.u64.wrap (4 + (deB (l.take 4) : Int)) = 4 + (deB (l.take 4) : Int) := wrap_u64 (by omega) (by unfold U64; omega)
      generalize deB (l.take 4) = n at *
      clear hG hn HG
      go_wp2_with fail
      refine (refOpen_any ((l.drop 4).take n) W HT.out).mono ?_
      rintro e w1 ⟨rfl, hbl1⟩
      have hb2 := hb0.later hbl1
      have hb3 := hb1.later hbl1
      have q1 := q0.trans (hbl1.mono q0.size)
      have hs1 := q1.size
      cases ho : openB ((l.drop 4).take n) with
      | error er =>
        have HN : Hid (recGet l = none) := by rw [Hid, HG2.out, recOp, ho]
        have d0 := hb3.cell 0
        have c0 := hb2.cell 0
        have f0 := hb2.free 0
        have d1 := hb3.cell 1
        have c1 := hb2.cell 1
        have f1 := hb2.free 1
        simp at d0 d1 c0 c1
        have t1 : ((er : Int) != 0) = true := by
          rw [bne_iff_ne]
          rcases openB_err ho with rfl | rfl <;> decide
        unfold refOpenV
        clear ho
        go_wp2_with fail
        exact bodyPost_ret (results_cell3 rfl _ _ w.heap.size rfl (hb2.put2 _ _) recTy) rfl ⟨by rw [HN.out]; rfl, (q1.setCell (Nat.le_refl _) _).setCell (Nat.le_refl _) _⟩
      | ok f =>
        have hfl : f.length ≤ 1099511627776 := Nat.le_trans (openB_len ho) HT.out
        have HG3 : Hid (recGet l = recIn f n) := by rw [Hid, HG2.out, recOp, ho]
        unfold refOpenV
        clear ho HG2
        go_wp2_with fail
        refine (refNum_any f w1 hfl).mono ?_
        rintro e w2 ⟨rfl, hbl2⟩
        have hb4 := hb2.later hbl2
        have hb5 := hb3.later hbl2
        have q2 := q1.trans (hbl2.mono hs1)
        have hs2 := q2.size
        have hle := numV_le f
        have HX := Lib.hid (rdNum_numV f)
        obtain ⟨X, hX⟩ : ∃ X, numV f = X := ⟨_, rfl⟩
        rw [hX] at HX hle ⊢
        obtain ⟨q, r, er⟩ := X
        simp only at hle
        simp only
        clear hbl2 hbl1 hX
        go_wp2_with fail
        refine (refTake_any r w2 (by omega)).mono ?_
        rintro e w3 ⟨rfl, hbl3⟩
        have hb6 := hb4.later hbl3
        have hb7 := hb5.later hbl3
        have q3 := q2.trans (hbl3.mono hs2)
        have hle3 := rdText_le r (e := 0) (Nat.zero_le _)
        have HG4 : Hid (recGet l = if er = 0 ∧ (rdText r 0).2.2 = 0 ∧ (rdText r 0).2.1 = [] ∧ (rdText r 0).1.length ≤ 32768 then some ((q, (rdText r 0).1), 4 + n) else none) := by rw [Hid, HG3.out, recIn_num HX.out]
        obtain ⟨Y, hY⟩ : ∃ Y, rdText r 0 = Y := ⟨_, rfl⟩
        rw [hY] at hle3 HG4 ⊢
        obtain ⟨t, r5, e5⟩ := Y
        simp only at hle3 HG4
        clear hY
        unfold takeV fldC
        have hb8 := hb6.alloc (.cells #[.int .i64 1, .int .u64 0, .string (st t), .bool false, .int .i64 0] 153)
        have hb9 := hb7.alloc (.cells #[.int .i64 1, .int .u64 0, .string (st t), .bool false, .int .i64 0] 153)
        have hbn := Blk.new w3 153 #[.int .i64 1, .int .u64 0, .string (st t), .bool false, .int .i64 0]
        have q4 := q3.alloc q3.size (.cells #[.int .i64 1, .int .u64 0, .string (st t), .bool false, .int .i64 0] 153)
        have n2 := hbn.cell 2
        simp at n2
        have d0 := hb9.cell 0
        have c0 := hb8.cell 0
        have f0 := hb8.free 0
        have d1 := hb9.cell 1
        have c1 := hb8.cell 1
        have f1 := hb8.free 1
        simp at d0 d1 c0 c1
        clear hb0 hb1 hb2 hb3 hb4 hb5 hb6 hb7 hb9 hbl3 HX
        by_cases he : er = 0
        · by_cases he5 : e5 = 0
          · rcases r5 with _ | ⟨b5, r5⟩
            · by_cases ht : t.length ≤ 32768
              · have HN : Hid (recGet l = some ((q, t), 4 + n)) := by rw [Hid, HG4.out, if_pos ⟨he, he5, rfl, ht⟩]
                subst he he5
                clear HG4
                go_wp2_with fail
                exact bodyPost_ret (results_cell3 rfl _ _ w.heap.size rfl (hb8.put2 _ _) recTy) rfl ⟨by rw [HN.out]; rfl, (q4.setCell (Nat.le_refl _) _).setCell (Nat.le_refl _) _⟩
              · have HN : Hid (recGet l = none) := by rw [Hid, HG4.out, if_neg (fun h => ht h.2.2.2)]
                subst he he5
                clear HG4
                go_wp2_with fail
                exact bodyPost_ret (results_cell3 rfl _ _ w.heap.size rfl (hb8.put2 _ _) recTy) rfl ⟨by rw [HN.out]; rfl, (q4.setCell (Nat.le_refl _) _).setCell (Nat.le_refl _) _⟩
            · have HN : Hid (recGet l = none) := by rw [Hid, HG4.out, if_neg (fun h => by cases h.2.2.1)]
              subst he he5
              clear HG4
              have hem : (b5 :: r5).isEmpty = false := rfl
              go_wp2_with fail
              exact bodyPost_ret (results_cell3 rfl _ _ w.heap.size rfl (hb8.put2 _ _) recTy) rfl ⟨by rw [HN.out]; rfl, (q4.setCell (Nat.le_refl _) _).setCell (Nat.le_refl _) _⟩
          · have HN : Hid (recGet l = none) := by rw [Hid, HG4.out, if_neg (fun h => he5 h.2.1)]
            have t1 : ((e5 : Int) != 0) = true := by rw [bne_iff_ne]; omega
            subst he
            clear HG4 he5
            go_wp2_with fail
            exact bodyPost_ret (results_cell3 rfl _ _ w.heap.size rfl (hb8.put2 _ _) recTy) rfl ⟨by rw [HN.out]; rfl, (q4.setCell (Nat.le_refl _) _).setCell (Nat.le_refl _) _⟩
        · have HN : Hid (recGet l = none) := by rw [Hid, HG4.out, if_neg (fun h => he h.1)]
          have t1 : ((er : Int) != 0) = true := by rw [bne_iff_ne]; omega
          clear HG4 he
          go_wp2_with fail
          exact bodyPost_ret (results_cell3 rfl _ _ w.heap.size rfl (hb8.put2 _ _) recTy) rfl ⟨by rw [HN.out]; rfl, (q4.setCell (Nat.le_refl _) _).setCell (Nat.le_refl _) _⟩
end Go.Proofs.YtojlldalhhibmaaGreatDoor

namespace Go.Proofs.YtojlldalhhibmaaGreatDoor
open Go Go.RowKit
set_option linter.unusedVariables false

theorem rcs_at {rs : List (Nat × List UInt8)} {j : Nat} (h : j < rs.length) : (rcs rs)[j * 2]? = some (.int .u64 (rs[j].1 : Int)) ∧ (rcs rs)[j * 2 + 1]? = some (.string (st rs[j].2)) := by
  induction rs generalizing j with
  | nil => simp at h
  | cons r rs ih =>
    rcases j with _ | j
    · simp [rcs]
    · have := ih (j := j) (by simpa using h)
      simp only [rcs, List.flatMap_cons] at this ⊢
      rw [show (j + 1) * 2 = j * 2 + 1 + 1 by omega]
      simpa using this

set_option maxHeartbeats 1000000 in
set_option maxRecDepth 100000 in
theorem rsame_any (S S' : Nat → Prop) (va vb : Value) (us vs : List (Nat × List UInt8)) (w : World) (ha : Sl S w 2 va us.length (rcs us)) (hb : Sl S' w 2 vb vs.length (rcs vs)) :
    Calls Tryz.prog 9 #[va, vb] w fun e w' => e = .returned (.bool (decide (us = vs))) ∧ ∃ n, w' = w.drewN n := by
  obtain ⟨_, A, c, rfl, hlc, hcm, hA0, hA⟩ := ha
  obtain ⟨_, B, d, rfl, hld, hdm, hB0, hB⟩ := hb
  have HA := Lib.hid hA
  have HB := Lib.hid hB
  have hm : us.length ≤ 9223372036854775807 := by unfold maxLen at hcm; omega
  clear hA hB
  by_cases hlen : us.length = vs.length
  · have HL := Lib.hid hlen
    have hlen1 : us.length ≤ vs.length := by omega
    have hlen2 : ((us.length : Int) != (vs.length : Int)) = false := by rw [hlen]; simp
    clear hlen
    go_enter Tryz.func9, Tryz.ntmps9
    go_wp2_with fail
    go_loopw [5] (fun iv wr => ∃ i : Nat, iv = .int .i64 (i : Int) ∧ i ≤ us.length ∧ Hid (us.take i = vs.take i) ∧ ∃ n, wr = w.drewN n) (fun iv _ => us.length - (intOf iv).toNat)
    case atStart => exact ⟨0, rfl, by omega, by simp [Hid], 0, rfl⟩
    case round =>
      obtain ⟨i, rfl, hi, ht, n, rfl⟩ := hrel
      by_cases hil : i < us.length
      · obtain ⟨b, o, rfl, _, hca⟩ := HA.out (by omega)
        obtain ⟨b', o', rfl, _, hcb⟩ := HB.out (by omega)
        have c0 : w.cell? ⟨b, o + i * 2, none⟩ = some (.int .u64 (us[i].1 : Int)) := hca _ _ (rcs_at hil).1
        have c1 : w.cell? ⟨b, o + i * 2 + 1, none⟩ = some (.string (st us[i].2)) := hca (i * 2 + 1) _ (rcs_at hil).2
        have d0 : w.cell? ⟨b', o' + i * 2, none⟩ = some (.int .u64 (vs[i].1 : Int)) := hcb _ _ (rcs_at (by omega)).1
        have d1 : w.cell? ⟨b', o' + i * 2 + 1, none⟩ = some (.string (st vs[i].2)) := hcb (i * 2 + 1) _ (rcs_at (by omega)).2
        clear hca hcb
        have hvl : i < vs.length := by omega
        have HS : Hid (us[i] = vs[i] → us.take (i + 1) = vs.take (i + 1)) := fun h => by rw [List.take_succ_eq_append_getElem hil, List.take_succ_eq_append_getElem hvl, h, ht.out]
        have HN : Hid (us[i] ≠ vs[i] → decide (us = vs) = false) := fun h => decide_eq_false (fun e => h (by subst e; rfl))
        generalize us[i] = x at *
        generalize vs[i] = y at *
        obtain ⟨q, t⟩ := x
        obtain ⟨q', t'⟩ := y
        simp only at c0 c1 d0 d1
        by_cases hxy : q = q' ∧ t = t'
        · obtain ⟨rfl, rfl⟩ := hxy
          have HE := Lib.hid (HS.out rfl)
          go_wp2_with fail
          go_quiet (fail)
          go_wp2_with fail
          go_roundw
          case rel => exact ⟨i + 1, by go_num, by omega, HE, _, rfl⟩
          case measure => simp [intOf]; omega
        · have HE := Lib.hid (HN.out (fun e => hxy (by injection e with a b; exact ⟨a, b⟩)))
          have hb : decide ((q : Int) = (q' : Int) ∧ t = t') = false := by rw [decide_eq_false_iff_not]; intro h; exact hxy ⟨by omega, h.2⟩
          by_cases hq : q = q'
          · subst hq
            have ht' : ¬ t = t' := fun e => hxy ⟨rfl, e⟩
            go_wp2_with fail
            go_quiet (fail)
            go_wp2_with fail
            go_ret
            exact ⟨by rw [HE.out]; rfl, _, World.drewN_drewN _ _ _⟩
          · have hq' : ¬ (q : Int) = (q' : Int) := by omega
            go_wp2_with fail
            go_quiet (fail)
            go_wp2_with fail
            go_ret
            exact ⟨by rw [HE.out]; rfl, _, World.drewN_drewN _ _ _⟩
      · obtain rfl : i = us.length := by omega
        have HE : Hid (decide (us = vs) = true) := by
          have := ht.out
          rw [List.take_length, HL.out, List.take_length] at this
          simp [Hid, this]
        go_wp2_with fail
        go_ret
        exact ⟨by rw [HE.out]; rfl, n, rfl⟩
  · have HE : Hid (decide (us = vs) = false) := decide_eq_false (fun e => hlen (by rw [e]))
    have t1 : ((us.length : Int) != (vs.length : Int)) = true := by rw [bne_iff_ne]; omega
    clear hlen
    go_enter Tryz.func9, Tryz.ntmps9
    go_wp2_with fail
    go_ret
    exact ⟨by rw [HE.out]; rfl, 0, rfl⟩

/-! ### The document's scan -/
theorem recGet_pos {l : List UInt8} {x : (Nat × List UInt8) × Nat} (h : recGet l = some x) : 8 ≤ x.2 ∧ x.2 ≤ l.length := by
  obtain ⟨r, n⟩ := x
  exact recGet_len h
/-- What holds behind some rounds of the document's scan. -/
structure RcSt (l : List UInt8) (first : Nat) (rs : List (Nat × List UInt8)) (a : Nat) : Prop where
  le : a ≤ l.length
  len : rs.length ≤ a
  all : recScan l.length l first = (rs ++ (recScan (l.length + 1) (l.drop a) (first + rs.length)).1, a + (recScan (l.length + 1) (l.drop a) (first + rs.length)).2)
theorem RcSt.zero (l : List UInt8) (first : Nat) : RcSt l first [] 0 := ⟨Nat.zero_le _, Nat.le_refl _, by simp [recScan_fuel l.length (l.length + 1) l first (Nat.le_refl _) (Nat.le_succ _)]⟩
theorem RcSt.stop {l : List UInt8} {first : Nat} {rs : List (Nat × List UInt8)} {a : Nat} (h : RcSt l first rs a) (hn : recScan (l.length + 1) (l.drop a) (first + rs.length) = ([], 0)) : recScan l.length l first = (rs, a) := by
  rw [h.all, hn]; simp
theorem RcSt.next {l : List UInt8} {first : Nat} {rs : List (Nat × List UInt8)} {a : Nat} (h : RcSt l first rs a) {r : Nat × List UInt8} {n : Nat} (hg : recGet (l.drop a) = some (r, n)) (hq : r.1 = (first + rs.length) % U64) : RcSt l first (rs ++ [r]) (a + n) := by
  have hn := recGet_len hg
  rw [List.length_drop] at hn
  have hle := h.le
  have hlen := h.len
  refine ⟨by omega, by rw [List.length_append, List.length_singleton]; omega, ?_⟩
  rw [h.all, recScan_some hg hq, List.drop_drop, List.length_append, List.length_singleton, ← Nat.add_assoc, recScan_fuel l.length (l.length + 1) (l.drop (a + n)) _ (by rw [List.length_drop]; omega) (by rw [List.length_drop]; omega)]
  simp [Nat.add_assoc]

set_option maxHeartbeats 2000000 in
set_option maxRecDepth 100000 in
theorem refRScan_any (l : List UInt8) (first : Nat) (w : World) (hl : l.length ≤ 1099511627776) (hf : first < U64) :
    Calls Tryz.prog 53 #[.string (st l), .int .u64 first] w fun e w' => ∃ A k c, e = .returned (.tuple #[.slice A k c, .int .i64 ((recScan l.length l first).2 : Int)]) ∧ Ro w' w.heap.size (.slice A k c) (recScan l.length l first).1 ∧ Below w.heap.size w w' := by
  have R0 : Ro (w.alloc (.cells #[] 71)) w.heap.size (.slice (some ⟨w.heap.size, 0, none⟩) 0 0) [] ∧ Below w.heap.size w (w.alloc (.cells #[] 71)) :=
    ⟨World.ownsRow_made w #[] 0 (Nat.le_refl _) (by simp [maxLen]) (by simp), (Below.refl _ _).alloc (Nat.le_refl _) _⟩
  have HF := Lib.hid (Nat.mod_eq_of_lt hf)
  clear hf
  go_enter Tryz.func53, Tryz.ntmps53
  go_wp2_with fail
  go_loopw [1, 6, 7] (fun fv ov av wr => ∃ (A : Option Addr) (k c : Nat) (rs : List (Nat × List UInt8)) (a : Nat), fv = .int .u64 (((first + rs.length) % U64 : Nat) : Int) ∧ ov = .slice A k c ∧ av = .int .i64 (a : Int) ∧ Ro wr w.heap.size (.slice A k c) rs ∧ RcSt l first rs a ∧ Below w.heap.size w wr) (fun _ _ av _ => l.length - (intOf av).toNat)
  case atStart => exact ⟨_, 0, 0, [], 0, by simp [HF.out], rfl, rfl, R0.1, RcSt.zero _ _, R0.2⟩
  case round =>
    obtain ⟨A, k, c, rs, a, rfl, rfl, rfl, hro, hst, hbl⟩ := hrel
    clear R0
    have hle := hst.le
    have hln := hst.len
    have hdl : (l.drop a).length ≤ 1099511627776 := by rw [List.length_drop]; omega
    have hmod : (first + rs.length) % U64 < U64 := Nat.mod_lt _ (by unfold U64; decide)
    have HST := Lib.hid hst
    have hsz := hbl.size
    have HPOS := Lib.hid (fun x (h : recGet (l.drop a) = some x) => recGet_pos h)
    have HDL := Lib.hid (show (l.drop a).length + a ≤ l.length by rw [List.length_drop]; omega)
    obtain ⟨m, hm⟩ : ∃ m, l.drop a = m := ⟨_, rfl⟩
    have HM := Lib.hid hm
    rw [hm] at hdl HPOS HDL
    have HDT : Hid ((l.drop a).take (l.length - a) = m) := (List.take_of_length_le (by simp)).trans hm
    clear hst hm
    have HW := Lib.hid (show ((first + rs.length) % U64 + 1) % U64 = (first + (rs.length + 1)) % U64 by rw [Nat.mod_add_mod, Nat.add_assoc])
    have HRO := Lib.hid hro
    obtain rfl := hro.len
    clear hro
    obtain ⟨F, hF⟩ : ∃ F, (first + rs.length) % U64 = F := ⟨_, rfl⟩
    have HWR : Hid (IntKind.u64.wrap ((F : Int) + 1) = (((first + (rs.length + 1)) % U64 : Nat) : Int)) := by
      have h1 := u64_add F 1
      rw [← hF, HW.out, hF] at h1
      exact h1
    have HF2 := Lib.hid hF
    rw [hF] at hmod ⊢
    clear hF
    go_wp2_with fail
    rw [HDT.out]
    refine (refRGet_any m wr hdl).mono ?_
    rintro e w1 ⟨rfl, hbl1⟩
    have HRO1 := Lib.hid (HRO.out.later hbl1)
    have q1 := hbl.trans (hbl1.mono hsz)
    have hs1 := q1.size
    cases hg : recGet m with
    | none =>
      have HE := Lib.hid (HST.out.stop (recScan_none (by rw [HM.out]; exact hg)))
      unfold rgetV recV
      clear hg hbl1
      go_wp2_with fail
      go_ret2
      rw [HE.out]
      exact ⟨A, rs.length, c, rfl, HRO1.out.later ((Below.refl _ _).alloc (Nat.le_refl _) _), q1.alloc hs1 _⟩
    | some rn =>
      obtain ⟨⟨q, t⟩, n⟩ := rn
      have hpos := HPOS.out _ hg
      simp only at hpos
      have hdl2 := HDL.out
      unfold rgetV recV
      by_cases hq : q = F
      · have HE := Lib.hid (HST.out.next (r := (q, t)) (n := n) (by rw [HM.out]; exact hg) (hq.trans HF2.out.symm))
        subst hq
        have hown := World.ownsRow.alloc (HRO1.out.later ((Below.refl _ _).alloc (Nat.le_refl _) (.cells #[.int .u64 (q : Int), .string (st t)] 71))) (.cells #[.int .u64 (q : Int), .string (st t)] 71)
        have q2 := (q1.alloc hs1 (.cells #[.int .u64 (q : Int), .string (st t)] 71)).alloc (by simp; omega) (.cells #[.int .u64 (q : Int), .string (st t)] 71)
        have HO := Lib.hid hown
        have hwa : IntKind.i64.wrap ((a : Int) + (n : Int)) = ((a + n : Nat) : Int) := by rw [IntWalk.i64_in _ (by omega)]; omega
        clear hg hbl1 hown
        go_wp2_with (at_builtin; go_loud (refine wpList_append_sl _ rfl (.tmp 30) (.tmp 32) elemRec rfl HO.out (Sl.newrec (S := fun _ => True) _ (q, t) (by simp) trivial) rfl rfl (rcs_one _) (by simp only [maxLen]; omega) (by omega) (by simp; omega) ?_); intro A3 k3 c3 w3 hown3 hg3 hat3)
        go_roundw
        case rel =>
          refine ⟨A3, k3, c3, rs ++ [(q, t)], a + n, ?_, rfl, ?_, ?_, HE.out, below_grown_own q2 HO.out hg3 (by simp; omega)⟩
          · rw [List.length_append, List.length_singleton, ← HWR.out]
          · go_num
          · unfold Ro
            rw [rcs_append, List.length_append]
            exact hown3
        case measure => simp [intOf]; omega
      · have HE := Lib.hid (HST.out.stop (recScan_other (by rw [HM.out]; exact hg) (fun e => hq (e.trans HF2.out))))
        have t1 : ((q : Int) != (F : Int)) = true := by rw [bne_iff_ne]; omega
        clear hg hbl1 hq
        go_wp2_with fail
        go_ret2
        rw [HE.out]
        exact ⟨A, rs.length, c, rfl, HRO1.out.later ((Below.refl _ _).alloc (Nat.le_refl _) _), q1.alloc hs1 _⟩
end Go.Proofs.YtojlldalhhibmaaGreatDoor

namespace Go.Proofs.YtojlldalhhibmaaGreatDoor
open Go Go.RowKit
set_option linter.unusedVariables false

theorem wLook_recs {D : Dsk} (hok : D.Ok) {a : Int} {size i q : Nat} {rs : List Rcd} (hs : size ≤ 64) (h : wLook D.view a size i = some (q, rs)) : rs.length ≤ 40000 := by
  have hl := wBytes_len hok size (a + (i : Int) * size)
  unfold wLook wLookB at h
  split at h
  · split at h
    · injection h with h
      injection h with _ h
      subst h
      refine Nat.le_trans (recScan_len _ _ _) ?_
      rw [List.length_drop]
      omega
    · cases h
  · cases h
theorem ChSt.fin {all : List Fd} {frm n : Nat} (hall : ∀ y ∈ all, y.at' < n ∧ y.recs.length ≤ 40000) : ∀ (m : Nat) {live : List Sg} {last : Nat} {out : List Rcd} {nx : Option Fd}, ChSt all frm n live last out nx → live.length + m = n + 1 →
    ∃ live' last' out', wChain all frm (n + 1) [] frm [] (wPick frm all none) = (live', last', out') ∧ (live'.map (·.at')).Nodup ∧ (∀ s ∈ live', s.at' < n) ∧ last' < U64 ∧ out'.length ≤ n * 40000
  | 0, live, last, out, nx, s, hm => by have := s.len; omega
  | m + 1, live, last, out, none, s, hm => ⟨live, last, out, s.end, s.nd, s.lt, s.last, Nat.le_trans s.out (Nat.mul_le_mul_right _ s.len)⟩
  | m + 1, live, last, out, some x, s, hm => ChSt.fin hall m (s.next hall) (by rw [List.length_append, List.length_singleton]; omega)
section
variable {D : Dsk} {a : Int} {n size frm : Nat}
theorem wOpen_fin (hok : D.Ok) (hs : size ≤ 64) (hf : frm < U64) : ∃ live last out, wChain (wAll D.view a size n) frm (n + 1) [] frm [] (wPick frm (wAll D.view a size n) none) = (live, last, out) ∧ (live.map (·.at')).Nodup ∧ (∀ s ∈ live, s.at' < n) ∧ last < U64 ∧ out.length ≤ n * 40000 :=
  ChSt.fin (fun y hy => ⟨(wAll_mem hy).1, wLook_recs hok hs (wAll_mem hy).2⟩) (n + 1) (ChSt.start hf) (by simp)
theorem wOpen_D (D : Dsk) (a : Int) (n size frm : Nat) : (wOpen D a n size frm).1.a = a ∧ (wOpen D a n size frm).1.n = n ∧ (wOpen D a n size frm).1.size = size ∧ (wOpen D a n size frm).1.stream = [] := ⟨rfl, rfl, rfl, rfl⟩
theorem wOpen_Ok (hok : D.Ok) (hn2 : 2 ≤ n) (hn : n ≤ 64) (hs1 : 1 ≤ size) (hs : size ≤ 64) (h0 : 0 ≤ a) (h1 : a + (n : Int) * size ≤ 65536) (hf : frm < U64) : (wOpen D a n size frm).1.Ok := by
  obtain ⟨live, last, out, e, h2, h3, h4, _⟩ := wOpen_fin (D := D) (a := a) (n := n) hok hs hf
  have hD := ow_D e
  have hl := ow_last e
  have hy := ow_synced e
  have hv := ow_live e
  have hm : max last frm < U64 := by omega
  refine ⟨by rw [hD]; exact (wFreeAll_ok hok a size live n).sync, hn2, hn, hs1, hs, h0, h1, by rw [hl]; exact hm, by rw [hy]; exact hm, by rw [hv]; exact h2, by rw [hv]; exact h3, fun h => (h rfl).elim, Nat.zero_le _⟩
theorem wOpen_pend (hok : D.Ok) (hs : size ≤ 64) (hf : frm < U64) : (wOpen D a n size frm).1.D.pend = [] := by
  obtain ⟨live, last, out, e, _⟩ := wOpen_fin (D := D) (a := a) (n := n) hok hs hf
  rw [ow_D e]
  rfl
end
theorem Wl.Ok.append {l : Wl} (ok : l.Ok) (t : List UInt8) : (wAppend l t).1.Ok := by
  obtain ⟨q, hq⟩ : ∃ q, q = (l.last + 1) % U64 := ⟨_, rfl⟩
  have hqU : q < U64 := by rw [hq]; exact Nat.mod_lt _ (by unfold U64; omega)
  obtain ⟨head, hh⟩ : ∃ head, head = recB q titleB := ⟨_, rfl⟩
  obtain ⟨b, hb⟩ : ∃ b, b = recB q t := ⟨_, rfl⟩
  by_cases hlong : 32768 < t.length ∨ 512 * l.size < head.length + b.length
  · rw [wAppend_long hq hh hb hlong]; exact ok
  have key : ∀ {L : List Sg} {s : List UInt8} {i : Nat} {fr : Bool}, ApC l q head b L s i fr → (wAppend l t).1.Ok := by
    intro L s i fr c
    obtain ⟨r, hr⟩ : ∃ r, wPut l.D (l.a + (i : Int) * l.size) (s ++ b) (s ++ b).length (apFrom l fr / 512) = r := ⟨_, rfl⟩
    have hD : r.1.Ok := by rw [← hr]; exact wPut_ok _ _ _ _ ok.dok
    by_cases h0 : r.2 = 0
    · rw [wAppend_ok hq hh hb hlong c hr h0]
      exact c.ok ok hqU hlong hD
    · rw [wAppend_no hq hh hb hlong c hr h0]
      cases fr with
      | true => exact (ok.drop (wFree_ok hD _ _)).sync
      | false => exact ok.drop hD
  by_cases hfr : l.stream = [] ∨ 512 * l.size < l.stream.length + b.length
  · cases hw : wFresh l.live l.n with
    | none => rw [wAppend_full hq hh hb hlong hfr hw]; exact ok
    | some i => exact key (L := l.live ++ [⟨i, q, 0⟩]) (s := head) (i := i) (fr := true) ⟨fun _ => ⟨hfr, hw, rfl, rfl⟩, fun e => (by cases e)⟩
  · exact key (L := l.live) (s := l.stream) (fr := false) ⟨fun e => (by cases e), fun _ => ⟨hfr, rfl, rfl, rfl⟩⟩

/-- A log that the call has made, since w, on a disk of its own. -/
structure Lp (w W : World) (gl : Nat) (h : Zn) (l : Wl) : Prop where
  dp : Dp w W h l.D
  lg : Lg W gl h l
  gn : w.heap.size ≤ gl
  ok : l.Ok
section
variable {w W W' : World} {gl : Nat} {h h' : Zn} {l : Wl} {D : Dsk}
theorem Lp.later (p : Lp w W gl h l) (hb : Below W.heap.size W W') : Lp w W' gl h l := ⟨p.dp.later hb, p.lg.later hb, p.gn, p.ok⟩
theorem Lp.lb (p : Lp w W gl h l) : ∃ lv sv, Lb W gl h.g l.a l.n l.size lv sv l.last l.synced ∧ Rg3 W lv l.live := by
  obtain ⟨lv, sv, g⟩ := p.lg
  exact ⟨lv, sv, g.lb, g.live⟩
theorem lopen_lp (d : Dp w W h D) (hok : D.Ok) {a : Int} {n size frm : Nat} (hn2 : 2 ≤ n) (hn : n ≤ 64) (hs1 : 1 ≤ size) (hs : size ≤ 64) (h0 : 0 ≤ a) (h1 : a + (n : Int) * size ≤ 65536) (hf : frm < U64) (hp : D.pend.length ≤ 800000) {pg : Nat} (hpg : h.g = pg) :
    Calls Tryz.prog 7 #[.pointer (some ⟨pg, 0, none⟩), .int .i64 a, .int .i64 (n : Int), .int .i64 (size : Int), .int .u64 (frm : Int)] W fun e W' => ∃ gl A k c h', e = .returned (.tuple #[.pointer (some ⟨gl, 0, none⟩), .slice A k c, .int .i64 0]) ∧
      Lp w W' gl h' (wOpen D a n size frm).1 ∧ h'.g = pg ∧ W'.ownsRow W.heap.size 71 2 (.slice A k c) (wOpen D a n size frm).2.length (rcs (wOpen D a n size frm).2) ∧ Stp h W h' W' := by
  subst hpg
  refine (lgopen_any h D a n size frm W d.dk hok hn2 hn hs1 hs h0 h1 hf hp).mono ?_
  rintro e W' ⟨gl, lv', sv', A, k, c, h', he, h2, h3, h4, h5, h6, h7, h8⟩
  refine ⟨gl, A, k, c, h', he, ⟨d.stp h8 h2, ⟨lv', sv', h2, ?_, h4, by rw [h5]; exact (Sl.nil : Bs _ _ _ [])⟩, Nat.le_trans d.below.size h6, wOpen_Ok hok hn2 hn hs1 hs h0 h1 hf⟩, h8.g, h7, h8⟩
  rw [h8.g]
  exact h3
theorem lappend_lp (p : Lp w W gl h l) (hb : BitsOk w) {t : List UInt8} (ht : t.length ≤ 1099511627776) (hp : l.D.pend.length ≤ 800000) {pg : Nat} (hpg : h.g = pg) :
    Calls Tryz.prog 12 #[.pointer (some ⟨gl, 0, none⟩), .string (st t)] W fun e W' => e = .returned (.tuple #[.int .u64 ((wAppend l t).2.1 : Int), .int .i64 ((wAppend l t).2.2 : Int)]) ∧ ∃ h', Lp w W' gl h' (wAppend l t).1 ∧ h'.g = pg ∧ Mtp h gl W h' W' := by
  subst hpg
  refine (lgappend_any h l gl t W p.lg p.ok (hb.later p.dp.below) ht hp).mono ?_
  rintro e W' ⟨he, h', h2, h3⟩
  refine ⟨he, h', ⟨?_, h2, p.gn, p.ok.append t⟩, h3.g, h3⟩
  obtain ⟨_, _, g⟩ := h2
  exact p.dp.mtp p.gn h3 g.dk
theorem lsync_lp (p : Lp w W gl h l) {pg : Nat} (hpg : h.g = pg) :
    Calls Tryz.prog 15 #[.pointer (some ⟨gl, 0, none⟩)] W fun e W' => e = .returned (.tuple #[]) ∧ ∃ h', Lp w W' gl h' l.sync ∧ h'.g = pg ∧ Mtp h gl W h' W' := by
  subst hpg
  obtain ⟨lv, sv, g⟩ := p.lg
  refine (lgsync_any h l.D gl l.a l.n l.size lv sv l.last l.synced W g.dk p.ok.dok g.lb).mono ?_
  rintro e W' ⟨he, h', h2, h3, h4⟩
  exact ⟨he, h', ⟨p.dp.mtp p.gn h4 h2, ⟨lv, sv, g.sync h2 h3 h4⟩, p.gn, p.ok.sync⟩, h4.g, h4⟩
theorem llast_lp (p : Lp w W gl h l) : Calls Tryz.prog 20 #[.pointer (some ⟨gl, 0, none⟩)] W fun e W' => e = .returned (.int .u64 (l.last : Int)) ∧ W = W' := by
  obtain ⟨lv, sv, g⟩ := p.lg
  exact lglast_any gl h.g l.a l.n l.size lv sv l.last l.synced W g.lb
theorem lsynced_lp (p : Lp w W gl h l) : Calls Tryz.prog 22 #[.pointer (some ⟨gl, 0, none⟩)] W fun e W' => e = .returned (.int .u64 (l.synced : Int)) ∧ W = W' := by
  obtain ⟨lv, sv, g⟩ := p.lg
  exact lgsynced_any gl h.g l.a l.n l.size lv sv l.last l.synced W g.lb
theorem llive_lp (p : Lp w W gl h l) : Calls Tryz.prog 21 #[.pointer (some ⟨gl, 0, none⟩)] W fun e W' => e = .returned (.int .i64 (l.live.length : Int)) ∧ W = W' := by
  obtain ⟨lv, sv, g⟩ := p.lg
  exact lglive_any gl h.g l.a l.n l.size lv sv l.last l.synced l.live W g.lb g.live
end

/-! ### An orderly log from the first -/
theorem wAll_none {f : SF} {a : Int} {size : Nat} (hf : ∀ x, f x = none) : ∀ n, wAll f a size n = []
  | 0 => rfl
  | n + 1 => by
    rw [wAll_succ, wAll_none hf n, List.nil_append]
    refine wCell_none ?_
    unfold wLook
    have : wBytes f (a + (n : Int) * size) size = [] := by
      cases size with
      | zero => rfl
      | succ s => exact wBytes_none (hf _)
    rw [this]
    unfold wLookB
    rw [recGet_nil]
theorem wFree_none {D : Dsk} (hf : ∀ x, D.view x = none) (p : Int) : ∀ n, wFree D p n = D
  | 0 => rfl
  | n + 1 => by
    rw [wFree, wFree_none hf p n]
    unfold Dsk.free
    rw [hf]
    rfl
theorem wFreeAll_none {D : Dsk} (hf : ∀ x, D.view x = none) (a : Int) (size : Nat) (live : List Sg) : ∀ n, wFreeAll D a size live n = D
  | 0 => rfl
  | n + 1 => by
    rw [wFreeAll, wFreeAll_none hf a size live n]
    split
    · rfl
    · exact wFree_none hf _ _
/-- On an empty disk there is nothing. -/
theorem wOpen_none {D : Dsk} (hf : ∀ x, D.view x = none) (a : Int) (n size frm : Nat) : wOpen D a n size frm = ({ D := D.sync, a := a, n := n, size := size, live := [], stream := [], last := frm, synced := frm }, []) := by
  unfold wOpen
  rw [wAll_none hf n]
  show (Wl.sync _, _) = _
  simp only [wPick, wChain, wFreeAll_none hf, Wl.sync, Nat.max_self]
theorem Wl.Ok.start {D : Dsk} (hf : ∀ x, D.view x = none) (hok : D.Ok) {a : Int} {n size frm : Nat} (hn2 : 2 ≤ n) (hn : n ≤ 64) (hs1 : 1 ≤ size) (hs : size ≤ 64) (h0 : 0 ≤ a) (h1 : a + (n : Int) * size ≤ 65536) (hm : frm < U64) : ({ D := D.sync, a := a, n := n, size := size, live := [], stream := [], last := frm, synced := frm } : Wl).Ok := by
  have := wOpen_Ok hok hn2 hn hs1 hs h0 h1 hm
  rw [wOpen_none hf] at this
  exact this
theorem Cl.start {D : Dsk} (hf : ∀ x, D.view x = none) (a : Int) (n size : Nat) : Cl { D := D.sync, a := a, n := n, size := size, live := [], stream := [], last := 0, synced := 0 } [] :=
  ⟨rfl, trivial, rfl, by simp [endN], by simp, by simp, by simp, by simp, by simp, fun i _ _ k _ => (by rw [if_neg (by simp)]; exact hf _), fun y hy => (by have h9 : (D.view y).isSome = true := hy; rw [hf] at h9; cases h9), .inl rfl⟩
end Go.Proofs.YtojlldalhhibmaaGreatDoor

namespace Go.Proofs.YtojlldalhhibmaaGreatDoor
open Go Go.RowKit
set_option linter.unusedVariables false

/-- Crash's loop: i of the pending writes were looked at; v2: the ground. -/
structure RdcSt (w wr : World) (D : Dsk) (l : List (Int × Int)) (v1 v2 v3 : Value) (Z : Array Value) (i : Nat) : Prop where
  st : RbSt w #[.int .i64 D.size, .int .i64 D.limit, v1, v2, v3] Z wr
  ground : ∃ lg, Sc wr v2 lg ∧ FinL (crashF l 0 (D.pend.take i) (D.ground, D.ng)).1 (crashF l 0 (D.pend.take i) (D.ground, D.ng)).2 lg
theorem RdcSt.sl {w wr : World} {D : Dsk} {l : List (Int × Int)} {v1 v2 v3 : Value} {Z : Array Value} {i : Nat} (h : RdcSt w wr D l v1 v2 v3 Z i) : ∃ A k c, v2 = .slice A k c := by
  obtain ⟨lg, h1, _⟩ := h.ground
  obtain ⟨A, c, h2, _⟩ := h1.at
  exact ⟨A, _, c, h2⟩
theorem crash_take {l : List (Int × Int)} {D : Dsk} {i : Nat} (h : i < D.pend.length) : crashF l 0 (D.pend.take (i + 1)) (D.ground, D.ng) =
    match fstOf l (i : Int) with | some n => doP (crashF l 0 (D.pend.take i) (D.ground, D.ng)) D.pend[i] n | none => crashF l 0 (D.pend.take i) (D.ground, D.ng) := by
  rw [List.take_succ_eq_append_getElem h, crashF_snoc, List.length_take, Nat.min_eq_left (Nat.le_of_lt h), Nat.zero_add, keptN_fst]
  cases fstOf l (i : Int) <;> rfl
theorem RdcSt.skip {w wr : World} {D : Dsk} {l : List (Int × Int)} {v1 v2 v3 : Value} {Z : Array Value} {i : Nat} (h : RdcSt w wr D l v1 v2 v3 Z i) (hi : i < D.pend.length) (hf : fstOf l (i : Int) = none) : RdcSt w wr D l v1 v2 v3 Z (i + 1) := by
  refine ⟨h.st, ?_⟩
  rw [crash_take hi, hf]
  exact h.ground
/-- One is done. -/
theorem RdcSt.step {w wr w7 : World} {D : Dsk} {l : List (Int × Int)} {v1 v2 v3 v7 : Value} {Z : Array Value} {i : Nat} {n : Int} {lg : List Sec} (h : RdcSt w wr D l v1 v2 v3 Z i) (hi : i < D.pend.length) (hf : fstOf l (i : Int) = some n)
    (hfin : FinL (crashF l 0 (D.pend.take i) (D.ground, D.ng)).1 (crashF l 0 (D.pend.take i) (D.ground, D.ng)).2 lg) {w6 : World} (hq : Below wr.heap.size wr w6) (hb : Below w6.heap.size w6 w7) (hv : Sc w7 v7 (rdL lg D.pend[i] n)) :
    RdcSt w (w7.setCell ⟨w.heap.size, 3, none⟩ v7) D l v1 v7 v3 Z (i + 1) := by
  have s7 := (h.st.to hq).to hb
  refine ⟨⟨s7.d.put 3 v7, s7.r.far (by simp) _, s7.below.setCell (Nat.le_refl _) _, by simpa using s7.size⟩, ?_⟩
  rw [crash_take hi, hf]
  exact ⟨_, KSl.setCell hv (p := ⟨w.heap.size, 3, none⟩) (by rw [kind_blk s7.d]; decide) _, rdL_fin hfin _ _⟩

theorem rcst_fin {w wr : World} {D : Dsk} {l : List (Int × Int)} {v1 v2 v3 z0 z1 z2 z3 z4 : Value} (h : RdcSt w wr D l v1 v2 v3 #[z0, z1, z2, z3, z4] D.pend.length) :
    let w1 := (wr.setCell ⟨w.heap.size, 2, none⟩ v2).setCell ⟨w.heap.size, 4, none⟩ (.slice none 0 0)
    let w9 := ((((w1.setCell ⟨w.heap.size + 1, 0, none⟩ (.int .i64 D.size)).setCell ⟨w.heap.size + 1, 1, none⟩ (.int .i64 D.limit)).setCell ⟨w.heap.size + 1, 2, none⟩ v2).setCell ⟨w.heap.size + 1, 3, none⟩ v2).setCell ⟨w.heap.size + 1, 4, none⟩ (.slice none 0 0)
    Blk w9 (w.heap.size + 1) 33 #[.int .i64 D.size, .int .i64 D.limit, v2, v2, .slice none 0 0] ∧ RDd w9 (.agg #[.int .i64 D.size, .int .i64 D.limit, v2, v2, .slice none 0 0]) (D.crash l) ∧ Below w.heap.size w w9 := by
  intro w1 w9
  obtain ⟨lg, h1, h2⟩ := h.ground
  rw [List.take_length] at h2
  have d1 := h.st.d.put 2 v2
  have s1 : RbSt w _ _ w1 := ⟨d1.put 4 (.slice none 0 0), (h.st.r.far (p := ⟨w.heap.size, 2, none⟩) (by simp) _).far (p := ⟨w.heap.size, 4, none⟩) (by simp) _, (h.st.below.setCell (p := ⟨w.heap.size, 2, none⟩) (Nat.le_refl _) _).setCell (p := ⟨w.heap.size, 4, none⟩) (Nat.le_refl _) _, by have := h.st.size; simp [w1]; omega⟩
  have h3 : Sc w1 v2 lg := KSl.setCell (KSl.setCell h1 (p := ⟨w.heap.size, 2, none⟩) (by rw [kind_blk h.st.d]; decide) _) (p := ⟨w.heap.size, 4, none⟩) (by rw [kind_blk d1]; decide) _
  exact s1.ret (x := .int .i64 D.size) (y := .int .i64 D.limit) (z := v2) (u := v2) (v := .slice none 0 0) ⟨⟨D.size, D.limit, lg, lg, []⟩, ⟨_, _, _, rfl, h3, h3, Pc.nil _⟩, ⟨rfl, rfl, h2, h2, rfl⟩⟩

set_option maxHeartbeats 4000000 in
set_option maxRecDepth 100000 in
theorem rdcrash_any (S : Nat → Prop) (v vl : Value) (D : Dsk) (l : List (Int × Int)) (w : World) (hr : RDd w v D) (hok : D.Ok) (hq : D.pend.length ≤ 1000000) (hsv : Sv S w vl l) (hl : l.length ≤ 1000000) (hin : ∀ x ∈ l, InI x.1 ∧ InI x.2) :
    Calls Tryz.prog 18 #[v, vl] w fun e w' => ∃ v', e = .returned v' ∧ RDd w' v' (D.crash l) ∧ Below w.heap.size w w' := by
  have HR := Lib.hid hr
  obtain ⟨A1, c1, A2, c2, A3, c3, rfl⟩ := hr.shape
  obtain ⟨A, c, rfl, hA⟩ := hsv.at
  have HA := Lib.hid hA
  have HIN := Lib.hid hin
  have HOK := Lib.hid hok
  have s0 := RbSt.start w #[.int .i64 D.size, .int .i64 D.limit, .slice A1 D.nv c1, .slice A2 D.ng c2, .slice A3 D.pend.length c3] #[.int .i64 0, .int .i64 0, .slice none 0 0, .slice none 0 0, .slice none 0 0]
  obtain ⟨R, ⟨u1, u2, u3, hv, hu1, hu2, hu3⟩, hi⟩ := hr
  have e2 : .slice A2 D.ng c2 = u2 := agg5_3 hv
  have e3 : .slice A3 D.pend.length c3 = u3 := agg5_4 hv
  rw [← e2] at hu2
  rw [← e3, hi.pend] at hu3
  have HFIN := Lib.hid hi.ground
  have HL3 : Hid (0 < D.pend.length → ∃ b o, A3 = some ⟨b, o, none⟩ ∧ b < w.heap.size ∧ ∀ j (hj : j < D.pend.length) k (hk : k < 3) x, (pnC D.pend[j])[k]? = some x → w.cell? ⟨b, o + j * 3 + k, none⟩ = some x) := fun h => by
    obtain ⟨A', c', hx, _, _, h4⟩ := hu3.at
    injection hx with hx1 _ hx3
    rw [hx1]
    exact h4 h
  have S0 : Hid (RdcSt w _ D l (.slice A1 D.nv c1) (.slice A2 D.ng c2) (.slice A3 D.pend.length c3) #[.int .i64 0, .int .i64 0, .slice none 0 0, .slice none 0 0, .slice none 0 0] 0) := ⟨s0, _, hu2.later s0.below, hi.ground⟩
  clear hv hu1 hu2 hu3 hi s0 hA hin hok hsv e2 e3
  go_enter Tryz.func18, Tryz.ntmps18
  go_wp2_with fail
  go_loopw [5] (fun iv wr => ∃ (i : Nat) (v2 : Value), iv = .int .i64 (i : Int) ∧ i ≤ D.pend.length ∧ Hid (RdcSt w wr D l (.slice A1 D.nv c1) v2 (.slice A3 D.pend.length c3) #[.int .i64 0, .int .i64 0, .slice none 0 0, .slice none 0 0, .slice none 0 0] i)) (fun iv _ => D.pend.length - (intOf iv).toNat)
  case atStart => exact ⟨0, _, rfl, by omega, S0⟩
  case round =>
    clear S0
    obtain ⟨i, v2, rfl, hi, HST⟩ := hrel
    obtain ⟨A0, k0, c0, rfl⟩ := HST.out.sl
    have d0 : (wr).cell? ⟨w.heap.size, 0, none⟩ = some (.int .i64 D.size) := HST.out.st.d.cell 0
    have d1 : (wr).cell? ⟨w.heap.size, 1, none⟩ = some (.int .i64 D.limit) := HST.out.st.d.cell 1
    have d2 : (wr).cell? ⟨w.heap.size, 2, none⟩ = some (.slice A1 D.nv c1) := HST.out.st.d.cell 2
    have d3 : (wr).cell? ⟨w.heap.size, 3, none⟩ = some (.slice A0 k0 c0) := HST.out.st.d.cell 3
    have d4 : (wr).cell? ⟨w.heap.size, 4, none⟩ = some (.slice A3 D.pend.length c3) := HST.out.st.d.cell 4
    have df0 : (wr).frozen? ⟨w.heap.size, 0, none⟩ = false := HST.out.st.d.free 0
    have df1 : (wr).frozen? ⟨w.heap.size, 1, none⟩ = false := HST.out.st.d.free 1
    have df2 : (wr).frozen? ⟨w.heap.size, 2, none⟩ = false := HST.out.st.d.free 2
    have df3 : (wr).frozen? ⟨w.heap.size, 3, none⟩ = false := HST.out.st.d.free 3
    have df4 : (wr).frozen? ⟨w.heap.size, 4, none⟩ = false := HST.out.st.d.free 4
    by_cases hil : i < D.pend.length
    · go_wp2_with fail
      go_loop [6] (fun kv => ∃ k : Nat, kv = .int .i64 (k : Int) ∧ k ≤ l.length ∧ Hid (fstOf l (i : Int) = fstOf (l.drop k) (i : Int))) (fun kv => l.length - (intOf kv).toNat)
      case atStart => exact ⟨0, rfl, by omega, rfl⟩
      case round =>
        obtain ⟨k, rfl, hk, hfs⟩ := hrel
        by_cases hkl : k < l.length
        · obtain ⟨b, o, rfl, hbs, hc⟩ := HA.out (by omega)
          have x0 : wr.cell? ⟨b, o + k * 2, none⟩ = some (.int .i64 l[k].1) := (HST.out.st.below.cell (p := ⟨b, o + k * 2, none⟩) hbs).trans (hc k hkl).1
          have x1 : wr.cell? ⟨b, o + k * 2 + 1, none⟩ = some (.int .i64 l[k].2) := (HST.out.st.below.cell (p := ⟨b, o + k * 2 + 1, none⟩) hbs).trans (hc k hkl).2
          have HXI := Lib.hid (HIN.out _ (List.getElem_mem hkl))
          have HD := Lib.hid (hfs.out.trans (fstOf_drop hkl (i : Int)))
          generalize l[k] = x at *
          obtain ⟨p1, p2⟩ := x
          simp only at x0 x1 HD HXI
          clear hc hfs
          by_cases hpa : p1 = (i : Int)
          · subst hpa
            have HE : Hid (fstOf l (i : Int) = some p2) := by rw [Hid, HD.out, if_pos rfl]
            clear HD
            obtain ⟨b3, o3, rfl, hb3, hc3⟩ := HL3.out (by omega)
            obtain ⟨a, f, bb, hpc, hbn, hbw⟩ := pnC_eq D.pend[i]
            have y0 : wr.cell? ⟨b3, o3 + i * 3, none⟩ = some (.int .i64 a) := (HST.out.st.below.cell (p := ⟨b3, o3 + i * 3, none⟩) hb3).trans (hc3 i hil 0 (by omega) _ (by rw [hpc]; rfl))
            have y1 : wr.cell? ⟨b3, o3 + i * 3 + 1, none⟩ = some (.bool f) := (HST.out.st.below.cell (p := ⟨b3, o3 + i * 3 + 1, none⟩) hb3).trans (hc3 i hil 1 (by omega) _ (by rw [hpc]; rfl))
            have y2 : wr.cell? ⟨b3, o3 + i * 3 + 2, none⟩ = some (.string (st bb)) := (HST.out.st.below.cell (p := ⟨b3, o3 + i * 3 + 2, none⟩) hb3).trans (hc3 i hil 2 (by omega) _ (by rw [hpc]; rfl))
            have HPC := Lib.hid hpc
            obtain ⟨lg, hlg1, hlg2⟩ := HST.out.ground
            have HLG1 := Lib.hid hlg1
            have HLG2 := Lib.hid hlg2
            have HPO : Hid (PnOk D.pend[i]) := HOK.out.pend _ (List.getElem_mem hil)
            have HCK : Hid (FinK (crashF l 0 (D.pend.take i) (D.ground, D.ng)).1 (crashF l 0 (D.pend.take i) (D.ground, D.ng)).2) := crashF_ok l _ 0 _ HOK.out.ground fun p hp => HOK.out.pend p (List.mem_of_mem_take hp)
            have HLL : Hid (((lookL lg (pnAt D.pend[i])).getD []).length ≤ 1099511627776) := by
              have e : lookL lg (pnAt D.pend[i]) = _ := hlg2.look _
              rw [Hid, e]
              cases hf : (crashF l 0 (D.pend.take i) (D.ground, D.ng)).1 (pnAt D.pend[i]) with
              | none => simp
              | some z => have := (HCK.out.at hf).2.2; simp; omega
            have HLN : Hid (lg.length ≤ 1000000) := by rw [Hid, hlg2.len]; have := HCK.out.bound; omega
            have hp2 : InI p2 := HXI.out.2
            clear hc3 hpc hbn hbw hlg1 hlg2
            go_wp2_with fail
            have hdl : w.heap.size < wr.heap.size := HST.out.st.d.lt
            have hdr : Below wr.heap.size wr wr.drew := by exact below_drewN (Below.refl _ _) 1
            have HSD := Lib.hid (HLG1.out.later hdr)
            have HPB : Hid (match D.pend[i] with | .wr _ b => b.length ≤ 1099511627776 | .fr _ => True) := by
              have := HPO.out
              rw [Hid]
              revert this
              cases D.pend[i] with
              | wr a b => exact fun h => Nat.le_trans h.2.2 (by omega)
              | fr a => exact fun _ => trivial
            have HDR := Lib.hid hdr
            clear hdr
            go_region_with ((go_at_call 44; rw [← HPC.out]; refine (rdone_any _ lg D.pend[i] p2 _ HSD.out HLN.out hp2 HPB.out HLL.out).mono ?_; rintro e w7 ⟨A7, c7, rfl, hsc7, hbl7⟩; have HNX := Lib.hid (HST.out.step hil HE.out HLG2.out HDR.out hbl7 hsc7); have s7 := (HST.out.st.to HDR.out).to hbl7; have t3 := s7.d.free 3; have t3c := s7.d.cell 3; have t3l := s7.d.lt; clear s7 hsc7 hbl7))
            all_goals
              go_wp2_with fail
              go_roundw
              case rel => exact ⟨i + 1, _, by go_num, by omega, HNX.out⟩
              case measure => simp [intOf]; omega
          · have HE : Hid (fstOf l (i : Int) = fstOf (l.drop (k + 1)) (i : Int)) := by rw [Hid, HD.out, if_neg (fun e => hpa e.symm)]
            have hb : (p1 == (i : Int)) = false := by simpa using hpa
            clear HD
            go_wp2_with fail
            go_round
            case rel => exact ⟨k + 1, by go_num, by omega, HE⟩
            case measure => simp [intOf]; omega
        · obtain rfl : k = l.length := by omega
          have HE : Hid (fstOf l (i : Int) = none) := by rw [Hid, hfs.out, List.drop_length]; rfl
          clear hfs
          go_wp2_with fail
          go_roundw
          case rel => exact ⟨i + 1, _, by go_num, by omega, HST.out.skip hil HE.out⟩
          case measure => simp [intOf]; omega
    · obtain rfl : i = D.pend.length := by omega
      have r0 : (wr).cell? ⟨w.heap.size + 1, 0, none⟩ = some (.int .i64 0) := HST.out.st.r.cell 0
      have r1 : (wr).cell? ⟨w.heap.size + 1, 1, none⟩ = some (.int .i64 0) := HST.out.st.r.cell 1
      have r2 : (wr).cell? ⟨w.heap.size + 1, 2, none⟩ = some (.slice none 0 0) := HST.out.st.r.cell 2
      have r3 : (wr).cell? ⟨w.heap.size + 1, 3, none⟩ = some (.slice none 0 0) := HST.out.st.r.cell 3
      have r4 : (wr).cell? ⟨w.heap.size + 1, 4, none⟩ = some (.slice none 0 0) := HST.out.st.r.cell 4
      have rf0 : (wr).frozen? ⟨w.heap.size + 1, 0, none⟩ = false := HST.out.st.r.free 0
      have rf1 : (wr).frozen? ⟨w.heap.size + 1, 1, none⟩ = false := HST.out.st.r.free 1
      have rf2 : (wr).frozen? ⟨w.heap.size + 1, 2, none⟩ = false := HST.out.st.r.free 2
      have rf3 : (wr).frozen? ⟨w.heap.size + 1, 3, none⟩ = false := HST.out.st.r.free 3
      have rf4 : (wr).frozen? ⟨w.heap.size + 1, 4, none⟩ = false := HST.out.st.r.free 4
      obtain ⟨lg, hlg1, hlg2⟩ := HST.out.ground
      have HF : Hid _ := Lib.hid (rcst_fin HST.out)
      go_wp2_with fail
      exact bodyPost_ret (results_cell1 rfl _ _ (w.heap.size + 1) rfl HF.out.1 rdiskTy) rfl ⟨_, rfl, HF.out.2.1, HF.out.2.2⟩
end Go.Proofs.YtojlldalhhibmaaGreatDoor

namespace Go.Proofs.YtojlldalhhibmaaGreatDoor
open Go Go.RowKit
set_option linter.unusedVariables false

/-- The slice value v reads as the segments l of the document's log. -/
abbrev Rgr (w : World) (v : Value) (l : List Sg) : Prop := KSl 89 3 w v l.length (sgcs l)
/-- The cells of the document's log (its disk's first: a struct within a struct lies flat). -/
def rlC (l : Wl) (A1 : Option Addr) (c1 : Nat) (A2 : Option Addr) (c2 : Nat) (A3 : Option Addr) (c3 : Nat) (A4 : Option Addr) (c4 : Nat) : Array Value :=
  #[.int .i64 l.D.size, .int .i64 l.D.limit, .slice A1 l.D.nv c1, .slice A2 l.D.ng c2, .slice A3 l.D.pend.length c3, .int .i64 l.a, .int .i64 (l.n : Int), .int .i64 (l.size : Int), .slice A4 l.live.length c4, .string (st l.stream), .int .u64 (l.last : Int), .int .u64 (l.synced : Int)]
/-- The value v is the document's log l. -/
def RLg (w : World) (v : Value) (l : Wl) : Prop := ∃ A1 c1 A2 c2 A3 c3 A4 c4, v = .agg (rlC l A1 c1 A2 c2 A3 c3 A4 c4) ∧
    Hid (RDd w (.agg #[.int .i64 l.D.size, .int .i64 l.D.limit, .slice A1 l.D.nv c1, .slice A2 l.D.ng c2, .slice A3 l.D.pend.length c3]) l.D) ∧ Hid (Rgr w (.slice A4 l.live.length c4) l.live)
theorem RLg.later {w w' : World} {v : Value} {l : Wl} (h : RLg w v l) (hb : Below w.heap.size w w') : RLg w' v l := by
  obtain ⟨A1, c1, A2, c2, A3, c3, A4, c4, e, h1, h2⟩ := h
  exact ⟨A1, c1, A2, c2, A3, c3, A4, c4, e, h1.out.later hb, KSl.later h2.out hb⟩
def rlKs : List (Option TypeId) := [some 134, some 111, some 89]
theorem RLg.same {w w' : World} {v : Value} {l : Wl} (h : RLg w v l) (hs : SameK rlKs w w') : RLg w' v l := by
  obtain ⟨A1, c1, A2, c2, A3, c3, A4, c4, e, h1, h2⟩ := h
  exact ⟨A1, c1, A2, c2, A3, c3, A4, c4, e, h1.out.same (hs.less (by decide)), KSl.same h2.out hs (by decide)⟩

set_option maxHeartbeats 4000000 in
set_option maxRecDepth 100000 in
theorem refWBytes_any (v : Value) (l : Wl) (i : Nat) (w : World) (hr : RLg w v l) (ok : l.Ok) (hi : i ≤ 64) :
    Calls Tryz.prog 51 #[v, .int .i64 (i : Int)] w fun e w' => e = .returned (.string (st (wBytes l.D.view (l.a + (i : Int) * l.size) l.size))) ∧ Below w.heap.size w w' := by
  obtain ⟨A1, c1, A2, c2, A3, c3, A4, c4, rfl, HD, HG⟩ := hr
  have hmul := seg_mul hi ok.s64
  have h0 := ok.a0
  have h1 := ok.am
  have hs64 := ok.s64
  have OK := Lib.hid ok
  have hq0 := Blk.new w 43 (rlC l A1 c1 A2 c2 A3 c3 A4 c4)
  have QA := Lib.hid ((Below.refl w.heap.size w).alloc (Nat.le_refl _) (.cells (rlC l A1 c1 A2 c2 A3 c3 A4 c4) 43))
  have c2' : (w.alloc (.cells (rlC l A1 c1 A2 c2 A3 c3 A4 c4) 43)).cell? ⟨w.heap.size, 2, none⟩ = some (.slice A1 l.D.nv c1) := hq0.cell 2
  have c5' : (w.alloc (.cells (rlC l A1 c1 A2 c2 A3 c3 A4 c4) 43)).cell? ⟨w.heap.size, 5, none⟩ = some (.int .i64 l.a) := hq0.cell 5
  have c7' : (w.alloc (.cells (rlC l A1 c1 A2 c2 A3 c3 A4 c4) 43)).cell? ⟨w.heap.size, 7, none⟩ = some (.int .i64 (l.size : Int)) := hq0.cell 7
  have RV := Lib.hid ((HD.out.later QA.out).rv)
  unfold rlC at hq0 QA c2' c5' c7' RV
  clear ok hq0
  unfold rlC
  go_enter Tryz.func51, Tryz.ntmps51
  go_wp2_with fail
  generalize w.alloc _ = wa at *
  go_loop [5, 6] (fun sv kv => ∃ (k : Nat) (out : List UInt8), sv = .string (st out) ∧ kv = .int .i64 (k : Int) ∧ k ≤ l.size ∧ out.length ≤ 512 * k ∧ Hid (wBytes l.D.view (l.a + (i : Int) * l.size) l.size = out ++ wBytes l.D.view (l.a + (i : Int) * l.size + (k : Int)) (l.size - k))) (fun _ kv => l.size - (intOf kv).toNat)
  case atStart => exact ⟨0, [], rfl, rfl, Nat.zero_le _, by simp, by simp [Hid]⟩
  case round =>
    obtain ⟨k, out, rfl, rfl, hk, hol, HA⟩ := hrel
    by_cases hlt : k < l.size
    · have hw1 : IntKind.i64.wrap ((i : Int) * l.size) = (i : Int) * l.size := i64_in (by omega) (by omega)
      have hw2 : IntKind.i64.wrap (l.a + (i : Int) * l.size) = l.a + (i : Int) * l.size := i64_in (by omega) (by omega)
      have hw3 : IntKind.i64.wrap (l.a + (i : Int) * l.size + k) = l.a + (i : Int) * l.size + k := i64_in (by omega) (by omega)
      cases hv : l.D.view (l.a + (i : Int) * l.size + k) with
      | none =>
        have hall := HA.out
        rw [show l.size - k = l.size - k - 1 + 1 by omega, wBytes_none hv, List.append_nil] at hall
        have HAL := Lib.hid hall
        have HV := Lib.hid hv
        clear hall hv
        go_wp2_with fail
        refine (rvfind_any RV.out OK.out.dok (l.a + (i : Int) * l.size + k)).mono ?_
        rintro e w5 ⟨rfl, rfl⟩
        rw [HV.out]
        clear hw1 hw2 hw3
        go_wp2_with fail
        go_ret
        exact ⟨by rw [HAL.out]; first | rfl | simp, QA.out⟩
      | some b =>
        have hb2 : b.length ≤ 512 := (OK.out.dok.view.at hv).2.2
        have HV := Lib.hid hv
        have hsum : out.length + b.length ≤ 100000 := by omega
        have hsum2 : (out.length : Int) + (b.length : Int) ≤ 100000 := by omega
        by_cases hb5 : b.length < 512
        · have hall := HA.out
          rw [show l.size - k = l.size - k - 1 + 1 by omega, wBytes_short hv hb5] at hall
          have HAL := Lib.hid hall
          have hb6 : (b.length : Int) < 512 := by omega
          clear hall hv hb5
          go_wp2_with fail
          refine (rvfind_any RV.out OK.out.dok (l.a + (i : Int) * l.size + k)).mono ?_
          rintro e w5 ⟨rfl, rfl⟩
          rw [HV.out]
          clear hw1 hw2 hw3
          simp only [Option.getD_some, Option.isSome_some]
          go_wp2_with fail
          go_ret
          exact ⟨by rw [HAL.out]; first | rfl | simp, QA.out⟩
        · have hall := HA.out
          rw [show l.size - k = l.size - (k + 1) + 1 by omega, wBytes_full hv hb5, ← List.append_assoc, show l.a + (i : Int) * l.size + (k : Int) + 1 = l.a + (i : Int) * l.size + ((k + 1 : Nat) : Int) by omega] at hall
          have HAL := Lib.hid hall
          have hb6 : ¬ (b.length : Int) < 512 := by omega
          clear hall hv hb5
          go_wp2_with fail
          refine (rvfind_any RV.out OK.out.dok (l.a + (i : Int) * l.size + k)).mono ?_
          rintro e w5 ⟨rfl, rfl⟩
          rw [HV.out]
          clear hw1 hw2 hw3
          simp only [Option.getD_some, Option.isSome_some]
          go_wp2_with fail
          go_round
          case rel => exact ⟨k + 1, out ++ b, by first | rfl | simp [st_append], by go_num, by omega, by rw [List.length_append]; omega, HAL⟩
          case measure => simp [intOf]; omega
    · obtain rfl : l.size = k := by omega
      have hall := HA.out
      rw [Nat.sub_self, wBytes, List.append_nil] at hall
      have HAL := Lib.hid hall
      clear hall
      go_wp2_with fail
      go_ret
      exact ⟨by rw [HAL.out]; first | rfl | simp, QA.out⟩
end Go.Proofs.YtojlldalhhibmaaGreatDoor

namespace Go.Proofs.YtojlldalhhibmaaGreatDoor
open Go Go.RowKit
set_option linter.unusedVariables false

set_option maxHeartbeats 4000000 in
set_option maxRecDepth 100000 in
theorem refWUsed_any (v : Value) (l : Wl) (i : Nat) (w : World) (hr : RLg w v l) (hln : l.live.length ≤ 100) :
    Calls Tryz.prog 32 #[v, .int .i64 (i : Int)] w fun e w' => e = .returned (.bool (usedL l.live i)) ∧ Below w.heap.size w w' := by
  obtain ⟨A1, c1, A2, c2, A3, c3, A4, c4, rfl, HD, HG⟩ := hr
  have hq0 := Blk.new w 43 (rlC l A1 c1 A2 c2 A3 c3 A4 c4)
  have QA := Lib.hid ((Below.refl w.heap.size w).alloc (Nat.le_refl _) (.cells (rlC l A1 c1 A2 c2 A3 c3 A4 c4) 43))
  have c8' : (w.alloc (.cells (rlC l A1 c1 A2 c2 A3 c3 A4 c4) 43)).cell? ⟨w.heap.size, 8, none⟩ = some (.slice A4 l.live.length c4) := hq0.cell 8
  have HG2 := Lib.hid (KSl.later HG.out QA.out)
  clear hq0
  unfold rlC at QA c8' HG2
  unfold rlC
  obtain ⟨_, _, _, hv, _, _, _, hA⟩ := HG2.out
  injection hv with e1 _ e3
  subst e1 e3
  have HA := Lib.hid hA
  clear hA HG
  go_enter Tryz.func32, Tryz.ntmps32
  go_wp2_with fail
  generalize w.alloc _ = wa at *
  go_loop [5] (fun kv => ∃ k : Nat, kv = .int .i64 (k : Int) ∧ k ≤ l.live.length ∧ Hid (usedL (l.live.take k) i = false)) (fun kv => l.live.length - (intOf kv).toNat)
  case atStart => exact ⟨0, rfl, Nat.zero_le _, rfl⟩
  case round =>
    obtain ⟨k, rfl, hk, HU⟩ := hrel
    by_cases hlt : k < l.live.length
    · obtain ⟨b, o, rfl, _, hc⟩ := HA.out (by omega)
      have x0 := hc _ _ (sgcs_get l.live k hlt).1
      have HT : Hid (l.live.take (k + 1) = l.live.take k ++ [l.live[k]]) := by rw [Hid, List.take_add_one, List.getElem?_eq_getElem hlt]; rfl
      have HM := Lib.hid (List.getElem_mem hlt)
      clear hc
      generalize l.live[k] = x at *
      by_cases hx : x.at' = i
      · have h1 : ((x.at' : Int) == (i : Int)) = true := by rw [hx]; simp
        have HX := Lib.hid hx
        clear hx
        go_wp2_with fail
        go_ret
        have : usedL l.live i = true := usedL_iff.2 ⟨x, HM.out, HX.out⟩
        exact ⟨by rw [this]; first | rfl | simp, QA.out⟩
      · have h1 : ((x.at' : Int) == (i : Int)) = false := by rw [beq_eq_false_iff_ne]; omega
        have HU2 : Hid (usedL (l.live.take (k + 1)) i = false) := by
          rw [Hid, HT.out, usedL_snoc, HU.out]
          simp [hx]
        clear hx
        go_wp2_with fail
        go_round
        case rel => exact ⟨k + 1, by go_num, by omega, HU2⟩
        case measure => simp [intOf]; omega
    · obtain rfl : l.live.length = k := by omega
      have hu := HU.out
      rw [List.take_length] at hu
      have HU3 := Lib.hid hu
      clear hu
      go_wp2_with fail
      go_ret
      exact ⟨by rw [HU3.out]; first | rfl | simp, QA.out⟩
end Go.Proofs.YtojlldalhhibmaaGreatDoor

namespace Go.Proofs.YtojlldalhhibmaaGreatDoor
open Go Go.RowKit
set_option linter.unusedVariables false

def LkPost (o : Option (Nat × List Rcd)) (w : World) (e : Ending) (w' : World) : Prop := Below w.heap.size w w' ∧ match o with
  | none => e = .returned (.tuple #[.int .u64 0, .slice none 0 0, .bool false])
  | some (q, rs) => ∃ A k c, e = .returned (.tuple #[.int .u64 (q : Int), .slice A k c, .bool true]) ∧ Ro w' w.heap.size (.slice A k c) rs
set_option maxHeartbeats 4000000 in
set_option maxRecDepth 100000 in
theorem refWLook_any (v : Value) (l : Wl) (i : Nat) (w : World) (hr : RLg w v l) (ok : l.Ok) (hi : i ≤ 64) :
    Calls Tryz.prog 31 #[v, .int .i64 (i : Int)] w (LkPost (wLook l.D.view l.a l.size i) w) := by
  have HR := Lib.hid hr
  obtain ⟨A1, c1, A2, c2, A3, c3, A4, c4, rfl, HD, HG⟩ := hr
  have hq0 := Blk.new w 43 (rlC l A1 c1 A2 c2 A3 c3 A4 c4)
  have QA := Lib.hid ((Below.refl w.heap.size w).alloc (Nat.le_refl _) (.cells (rlC l A1 c1 A2 c2 A3 c3 A4 c4) 43))
  have RA := Lib.hid (HR.out.later QA.out)
  have OK := Lib.hid ok
  have hlen := Lib.hid (wBytes_len ok.dok l.size (l.a + (i : Int) * l.size))
  have hs64 := Lib.hid ok.s64
  clear ok HR
  unfold rlC at QA RA hq0
  unfold rlC
  go_enter Tryz.func31, Tryz.ntmps31
  go_upto_region 1 with (fail)
  generalize hw9 : w.alloc _ = wa at *
  clear hw9
  have d0 : (wa).cell? ⟨w.heap.size, 0, none⟩ = some (.int .i64 l.D.size) := hq0.cell 0
  have d1 : (wa).cell? ⟨w.heap.size, 1, none⟩ = some (.int .i64 l.D.limit) := hq0.cell 1
  have d2 : (wa).cell? ⟨w.heap.size, 2, none⟩ = some (.slice A1 l.D.nv c1) := hq0.cell 2
  have d3 : (wa).cell? ⟨w.heap.size, 3, none⟩ = some (.slice A2 l.D.ng c2) := hq0.cell 3
  have d4 : (wa).cell? ⟨w.heap.size, 4, none⟩ = some (.slice A3 l.D.pend.length c3) := hq0.cell 4
  have d5 : (wa).cell? ⟨w.heap.size, 5, none⟩ = some (.int .i64 l.a) := hq0.cell 5
  have d6 : (wa).cell? ⟨w.heap.size, 6, none⟩ = some (.int .i64 (l.n : Int)) := hq0.cell 6
  have d7 : (wa).cell? ⟨w.heap.size, 7, none⟩ = some (.int .i64 (l.size : Int)) := hq0.cell 7
  have d8 : (wa).cell? ⟨w.heap.size, 8, none⟩ = some (.slice A4 l.live.length c4) := hq0.cell 8
  have d9 : (wa).cell? ⟨w.heap.size, 9, none⟩ = some (.string (st l.stream)) := hq0.cell 9
  have d10 : (wa).cell? ⟨w.heap.size, 10, none⟩ = some (.int .u64 (l.last : Int)) := hq0.cell 10
  have d11 : (wa).cell? ⟨w.heap.size, 11, none⟩ = some (.int .u64 (l.synced : Int)) := hq0.cell 11
  clear hq0
  have hbytes := refWBytes_any _ l i wa RA.out OK.out hi
  obtain ⟨S, hS⟩ : ∃ S, wBytes l.D.view (l.a + (i : Int) * l.size) l.size = S := ⟨_, rfl⟩
  have hlk : wLook l.D.view l.a l.size i = wLookB S := wLook_of hS
  have HLE := Lib.hid hlk
  rw [hS] at hbytes hlen
  have HBY := Lib.hid hbytes
  clear hbytes hS hlk RA
  go_wp2_with fail
  refine HBY.out.mono ?_
  rintro e w1 ⟨rfl, hb1⟩
  have B1 := Lib.hid (QA.out.trans (hb1.mono QA.out.size))
  clear hb1 HBY d0 d1 d2 d3 d4 d5 d6 d7 d8 d9 d10 d11 QA
  have hsl : S.length ≤ 40000 := by have h1 := hlen.out; have h2 := hs64.out; omega
  go_wp2_with fail
  refine (refRGet_any S w1 (by omega)).mono ?_
  rintro e w2 ⟨rfl, hb2⟩
  have B2 := Lib.hid (B1.out.trans (hb2.mono B1.out.size))
  clear hb2
  cases hg : recGet S with
  | none =>
    have HLK : Hid (wLook l.D.view l.a l.size i = none) := by rw [Hid, HLE.out]; unfold wLookB; rw [hg]
    unfold rgetV recV
    have B3 := Lib.hid (B2.out.alloc B2.out.size (.cells #[.int .u64 0, .string (st [])] 71))
    clear hg
    go_wp2_with fail
    go_ret3
    refine ⟨B3.out, ?_⟩
    rw [HLK.out]
    first | rfl | simp
  | some r =>
    obtain ⟨⟨q, t⟩, n⟩ := r
    have hn := recGet_len hg
    have hqU := recGet_lt' hg
    have HG3 := Lib.hid hg
    unfold rgetV recV
    have B3 := Lib.hid (B2.out.alloc B2.out.size (.cells #[.int .u64 (q : Int), .string (st t)] 71))
    have bk := Blk.new w2 71 #[.int .u64 (q : Int), .string (st t)]
    have r0 : (w2.alloc (.cells #[.int .u64 (q : Int), .string (st t)] 71)).cell? ⟨w2.heap.size, 0, none⟩ = some (.int .u64 (q : Int)) := bk.cell 0
    have r1 : (w2.alloc (.cells #[.int .u64 (q : Int), .string (st t)] 71)).cell? ⟨w2.heap.size, 1, none⟩ = some (.string (st t)) := bk.cell 1
    clear hg bk
    by_cases ht : t = titleB
    · have h1 : (t == [115, 101, 103, 109, 101, 110, 116]) = true := by rw [ht]; rfl
      have HLK : Hid (wLook l.D.view l.a l.size i = some (q, (recScan (S.drop n).length (S.drop n) q).1)) := by rw [Hid, HLE.out]; unfold wLookB; rw [HG3.out]; simp [ht]
      have hdr : (S.drop n).take (S.length - n) = S.drop n := List.take_of_length_le (by rw [List.length_drop]; omega)
      have hnS : n ≤ S.length := hn.2
      have hni : (n : Int) ≤ (S.length : Int) := by omega
      clear ht
      go_wp2_with fail
      generalize w2.heap.size = g8 at *
      generalize w2.alloc _ = w3 at *
      go_region_held3 (fun W => W.cell? ⟨g8, 0, none⟩ = some (.int .u64 (q : Int)))
        (first
          | go_keep
          | exact cell_later hb4 r0
          | fail)
        ((first
          | (go_at_call 53; refine (refRScan_any (S.drop n) q _ (by rw [List.length_drop]; omega) hqU).mono ?_; rintro e w4 ⟨A4', k4, c4', rfl, hro, hb4⟩)
          | fail))
      have r4 : w4.cell? ⟨g8, 0, none⟩ = some (.int .u64 (q : Int)) := cell_later hb4 r0
      have B4 : Below w.heap.size w w4 := B3.out.drew.trans (hb4.mono B3.out.size)
      have hro2 : Ro w4 w.heap.size (.slice A4' k4 c4') (recScan (S.drop n).length (S.drop n) q).1 := own_lower hro B3.out.size
      have BR := Lib.hid B4
      have RO := Lib.hid hro2
      clear hro hro2 B4 hb4 r0 r1 hdr
      go_wp2_with fail
      go_ret3
      refine ⟨BR.out, ?_⟩
      rw [HLK.out]
      exact ⟨A4', k4, c4', by first | rfl | simp, RO.out⟩
    · have h1 : (t == [115, 101, 103, 109, 101, 110, 116]) = false := by rw [beq_eq_false_iff_ne]; exact ht
      have HLK : Hid (wLook l.D.view l.a l.size i = none) := by rw [Hid, HLE.out]; unfold wLookB; rw [HG3.out]; simp [ht]
      clear ht
      go_wp2_with fail
      go_ret3
      refine ⟨B3.out, ?_⟩
      rw [HLK.out]
      first | rfl | simp
end Go.Proofs.YtojlldalhhibmaaGreatDoor

namespace Go.Proofs.YtojlldalhhibmaaGreatDoor
open Go Go.RowKit
set_option linter.unusedVariables false

theorem logTy : StructTy Tryz.prog 43 12 := ⟨⟨_, Tryz.underlying43⟩, by kernel_rfl⟩
abbrev put12 (w : World) (g : Nat) (x0 x1 x2 x3 x4 x5 x6 x7 x8 x9 x10 x11 : Value) : World :=
  (((((((((((w.setCell ⟨g, 0, none⟩ x0).setCell ⟨g, 1, none⟩ x1).setCell ⟨g, 2, none⟩ x2).setCell ⟨g, 3, none⟩ x3).setCell ⟨g, 4, none⟩ x4).setCell ⟨g, 5, none⟩ x5).setCell ⟨g, 6, none⟩ x6).setCell ⟨g, 7, none⟩ x7).setCell ⟨g, 8, none⟩ x8).setCell ⟨g, 9, none⟩ x9).setCell ⟨g, 10, none⟩ x10).setCell ⟨g, 11, none⟩ x11
theorem Blk.put12 {w : World} {g : Nat} {t : TypeId} {z0 z1 z2 z3 z4 z5 z6 z7 z8 z9 z10 z11 : Value} (h : Blk w g t #[z0, z1, z2, z3, z4, z5, z6, z7, z8, z9, z10, z11]) (x0 x1 x2 x3 x4 x5 x6 x7 x8 x9 x10 x11 : Value) :
    Blk (put12 w g x0 x1 x2 x3 x4 x5 x6 x7 x8 x9 x10 x11) g t #[x0, x1, x2, x3, x4, x5, x6, x7, x8, x9, x10, x11] := by
  have h : Blk _ g t #[x0, z1, z2, z3, z4, z5, z6, z7, z8, z9, z10, z11] := h.put 0 x0
  have h : Blk _ g t #[x0, x1, z2, z3, z4, z5, z6, z7, z8, z9, z10, z11] := h.put 1 x1
  have h : Blk _ g t #[x0, x1, x2, z3, z4, z5, z6, z7, z8, z9, z10, z11] := h.put 2 x2
  have h : Blk _ g t #[x0, x1, x2, x3, z4, z5, z6, z7, z8, z9, z10, z11] := h.put 3 x3
  have h : Blk _ g t #[x0, x1, x2, x3, x4, z5, z6, z7, z8, z9, z10, z11] := h.put 4 x4
  have h : Blk _ g t #[x0, x1, x2, x3, x4, x5, z6, z7, z8, z9, z10, z11] := h.put 5 x5
  have h : Blk _ g t #[x0, x1, x2, x3, x4, x5, x6, z7, z8, z9, z10, z11] := h.put 6 x6
  have h : Blk _ g t #[x0, x1, x2, x3, x4, x5, x6, x7, z8, z9, z10, z11] := h.put 7 x7
  have h : Blk _ g t #[x0, x1, x2, x3, x4, x5, x6, x7, x8, z9, z10, z11] := h.put 8 x8
  have h : Blk _ g t #[x0, x1, x2, x3, x4, x5, x6, x7, x8, x9, z10, z11] := h.put 9 x9
  have h : Blk _ g t #[x0, x1, x2, x3, x4, x5, x6, x7, x8, x9, x10, z11] := h.put 10 x10
  have h : Blk _ g t #[x0, x1, x2, x3, x4, x5, x6, x7, x8, x9, x10, x11] := h.put 11 x11
  exact h
theorem Blk.away5 {w : World} {g g' : Nat} {t : TypeId} {cs : Array Value} (h : Blk w g' t cs) (hne : g' ≠ g) (x y z u v : Value) :
    Blk (((((w.setCell ⟨g, 0, none⟩ x).setCell ⟨g, 1, none⟩ y).setCell ⟨g, 2, none⟩ z).setCell ⟨g, 3, none⟩ u).setCell ⟨g, 4, none⟩ v) g' t cs :=
  ((((h.far (p := ⟨g, 0, none⟩) hne x).far (p := ⟨g, 1, none⟩) hne y).far (p := ⟨g, 2, none⟩) hne z).far (p := ⟨g, 3, none⟩) hne u).far (p := ⟨g, 4, none⟩) hne v
theorem SameK.setc {ks : List (Option TypeId)} {w0 w : World} {g : Nat} {t : TypeId} (h : SameK ks w0 w ∧ ∃ cs, Blk w g t cs) (ht : some t ∉ ks) (i : Nat) (u : Value) :
    SameK ks w0 (w.setCell ⟨g, i, none⟩ u) ∧ ∃ cs, Blk (w.setCell ⟨g, i, none⟩ u) g t cs := by
  obtain ⟨h1, cs, h2⟩ := h
  exact ⟨h1.trans (SameK.setCell (p := ⟨g, i, none⟩) h2 ht u), _, h2.put i u⟩
theorem SameK.puts12 {ks : List (Option TypeId)} {w : World} {g : Nat} {t : TypeId} {cs : Array Value} (hb : Blk w g t cs) (ht : some t ∉ ks) (x0 x1 x2 x3 x4 x5 x6 x7 x8 x9 x10 x11 : Value) :
    SameK ks w (put12 w g x0 x1 x2 x3 x4 x5 x6 x7 x8 x9 x10 x11) :=
  (SameK.setc (SameK.setc (SameK.setc (SameK.setc (SameK.setc (SameK.setc (SameK.setc (SameK.setc (SameK.setc (SameK.setc (SameK.setc (SameK.setc ⟨SameK.refl w, cs, hb⟩ ht 0 x0) ht 1 x1) ht 2 x2) ht 3 x3) ht 4 x4) ht 5 x5) ht 6 x6) ht 7 x7) ht 8 x8) ht 9 x9) ht 10 x10) ht 11 x11).1
theorem below_put12 {B : Nat} {w0 w : World} {g : Nat} (h : Below B w0 w) (hg : B ≤ g) (x0 x1 x2 x3 x4 x5 x6 x7 x8 x9 x10 x11 : Value) : Below B w0 (put12 w g x0 x1 x2 x3 x4 x5 x6 x7 x8 x9 x10 x11) :=
  (((((((((((h.setCell hg _).setCell hg _).setCell hg _).setCell hg _).setCell hg _).setCell hg _).setCell hg _).setCell hg _).setCell hg _).setCell hg _).setCell hg _).setCell hg _

/-- A function on a log: the log, the result. -/
structure LbSt (w : World) (D Z : Array Value) (wr : World) : Prop where
  d : Blk wr w.heap.size 43 D
  r : Blk wr (w.heap.size + 1) 43 Z
  below : Below w.heap.size w wr
  size : w.heap.size + 1 + 1 ≤ wr.heap.size
theorem LbSt.start (w : World) (D Z : Array Value) : LbSt w D Z ((w.alloc (.cells D 43)).alloc (.cells Z 43)) :=
  ⟨(Blk.new _ _ _).alloc _, by have := Blk.new (w.alloc (.cells D 43)) 43 Z; simpa using this, ((Below.refl _ _).alloc (Nat.le_refl _) _).alloc (by simp) _, by simp⟩
theorem LbSt.to {w wr w' : World} {D Z : Array Value} (h : LbSt w D Z wr) (hb : Below wr.heap.size wr w') : LbSt w D Z w' :=
  ⟨h.d.later hb, h.r.later hb, h.below.trans (hb.mono h.below.size), Nat.le_trans h.size hb.size⟩
/-- The disk is put. -/
theorem LbSt.disk {w wr : World} {d0 d1 d2 d3 d4 d5 d6 d7 d8 d9 d10 d11 : Value} {Z : Array Value} (h : LbSt w #[d0, d1, d2, d3, d4, d5, d6, d7, d8, d9, d10, d11] Z wr) (x y z u v : Value) :
    LbSt w #[x, y, z, u, v, d5, d6, d7, d8, d9, d10, d11] Z (((((wr.setCell ⟨w.heap.size, 0, none⟩ x).setCell ⟨w.heap.size, 1, none⟩ y).setCell ⟨w.heap.size, 2, none⟩ z).setCell ⟨w.heap.size, 3, none⟩ u).setCell ⟨w.heap.size, 4, none⟩ v) :=
  ⟨((((h.d.put 0 x).put 1 y).put 2 z).put 3 u).put 4 v, h.r.away5 (by omega) _ _ _ _ _, below_put5 h.below (Nat.le_refl _) _ _ _ _ _, by simpa using h.size⟩
theorem LbSt.put {w wr : World} {D Z : Array Value} (h : LbSt w D Z wr) (i : Nat) (x : Value) : LbSt w (D.setIfInBounds i x) Z (wr.setCell ⟨w.heap.size, i, none⟩ x) :=
  ⟨h.d.put i x, h.r.far (p := ⟨w.heap.size, i, none⟩) (by simp) _, h.below.setCell (Nat.le_refl _) _, by simpa using h.size⟩
/-- The result is laid. -/
theorem LbSt.ret {w wr : World} {D : Array Value} {z0 z1 z2 z3 z4 z5 z6 z7 z8 z9 z10 z11 : Value} {l : Wl} (h : LbSt w D #[z0, z1, z2, z3, z4, z5, z6, z7, z8, z9, z10, z11] wr) {x0 x1 x2 x3 x4 x5 x6 x7 x8 x9 x10 x11 : Value} (hr : RLg wr (.agg #[x0, x1, x2, x3, x4, x5, x6, x7, x8, x9, x10, x11]) l) :
    Blk (put12 wr (w.heap.size + 1) x0 x1 x2 x3 x4 x5 x6 x7 x8 x9 x10 x11) (w.heap.size + 1) 43 #[x0, x1, x2, x3, x4, x5, x6, x7, x8, x9, x10, x11] ∧ RLg (put12 wr (w.heap.size + 1) x0 x1 x2 x3 x4 x5 x6 x7 x8 x9 x10 x11) (.agg #[x0, x1, x2, x3, x4, x5, x6, x7, x8, x9, x10, x11]) l ∧ Below w.heap.size w (put12 wr (w.heap.size + 1) x0 x1 x2 x3 x4 x5 x6 x7 x8 x9 x10 x11) :=
  ⟨h.r.put12 _ _ _ _ _ _ _ _ _ _ _ _, hr.same (SameK.puts12 h.r (by decide) _ _ _ _ _ _ _ _ _ _ _ _), below_put12 h.below (by omega) _ _ _ _ _ _ _ _ _ _ _ _⟩

end Go.Proofs.YtojlldalhhibmaaGreatDoor

namespace Go.Proofs.YtojlldalhhibmaaGreatDoor
open Go Go.RowKit
set_option linter.unusedVariables false

/-- The log l lies in the block g, as a variable. -/
structure Lv (w : World) (g : Nat) (l : Wl) (A1 : Option Addr) (c1 : Nat) (A2 : Option Addr) (c2 : Nat) (A3 : Option Addr) (c3 : Nat) (A4 : Option Addr) (c4 : Nat) : Prop where
  blk : Blk w g 43 (rlC l A1 c1 A2 c2 A3 c3 A4 c4)
  rd : RDd w (.agg #[.int .i64 l.D.size, .int .i64 l.D.limit, .slice A1 l.D.nv c1, .slice A2 l.D.ng c2, .slice A3 l.D.pend.length c3]) l.D
  rg : Rgr w (.slice A4 l.live.length c4) l.live
abbrev putD (w : World) (g : Nat) (x0 x1 x2 x3 x4 : Value) : World :=
  ((((w.setCell ⟨g, 0, none⟩ x0).setCell ⟨g, 1, none⟩ x1).setCell ⟨g, 2, none⟩ x2).setCell ⟨g, 3, none⟩ x3).setCell ⟨g, 4, none⟩ x4
theorem Blk.put5of12 {w : World} {g : Nat} {t : TypeId} {z0 z1 z2 z3 z4 z5 z6 z7 z8 z9 z10 z11 : Value} (h : Blk w g t #[z0, z1, z2, z3, z4, z5, z6, z7, z8, z9, z10, z11]) (x0 x1 x2 x3 x4 : Value) :
    Blk (putD w g x0 x1 x2 x3 x4) g t #[x0, x1, x2, x3, x4, z5, z6, z7, z8, z9, z10, z11] := ((((h.put 0 x0).put 1 x1).put 2 x2).put 3 x3).put 4 x4
theorem Blk.other {w : World} {g g' : Nat} {t : TypeId} {cs : Array Value} (h : Blk w g' t cs) (hne : g' ≠ g) (i : Nat) (u : Value) : Blk (w.setCell ⟨g, i, none⟩ u) g' t cs := h.far (p := ⟨g, i, none⟩) hne u
section
variable {w w' : World} {g : Nat} {l : Wl} {A1 A2 A3 A4 B1 B2 B3 B4 : Option Addr} {c1 c2 c3 c4 d1 d2 d3 d4 : Nat}
theorem Lv.later (h : Lv w g l A1 c1 A2 c2 A3 c3 A4 c4) (hb : Below w.heap.size w w') : Lv w' g l A1 c1 A2 c2 A3 c3 A4 c4 := ⟨h.blk.later hb, h.rd.later hb, KSl.later h.rg hb⟩
theorem Lv.val (h : Lv w g l A1 c1 A2 c2 A3 c3 A4 c4) : RLg w (.agg (rlC l A1 c1 A2 c2 A3 c3 A4 c4)) l := ⟨A1, c1, A2, c2, A3, c3, A4, c4, rfl, h.rd, h.rg⟩
theorem Lv.at (h : Lv w g l A1 c1 A2 c2 A3 c3 A4 c4) (hs : SameK rlKs w w') (hb : Blk w' g 43 (rlC l A1 c1 A2 c2 A3 c3 A4 c4)) : Lv w' g l A1 c1 A2 c2 A3 c3 A4 c4 := ⟨hb, h.rd.same (hs.less (by decide)), KSl.same h.rg hs (by decide)⟩
theorem Lv.setD (h : Lv w g l A1 c1 A2 c2 A3 c3 A4 c4) {E : Dsk} (hd : RDd w (.agg #[.int .i64 E.size, .int .i64 E.limit, .slice B1 E.nv d1, .slice B2 E.ng d2, .slice B3 E.pend.length d3]) E) :
    Lv (putD w g (.int .i64 E.size) (.int .i64 E.limit) (.slice B1 E.nv d1) (.slice B2 E.ng d2) (.slice B3 E.pend.length d3)) g { l with D := E } B1 d1 B2 d2 B3 d3 A4 c4 := by
  have hs : SameK rlKs w (putD w g (.int .i64 E.size) (.int .i64 E.limit) (.slice B1 E.nv d1) (.slice B2 E.ng d2) (.slice B3 E.pend.length d3)) := SameK.puts5 h.blk (by decide) _ _ _ _ _
  exact ⟨Blk.put5of12 h.blk _ _ _ _ _, hd.same (hs.less (by decide)), KSl.same h.rg hs (by decide)⟩
theorem Lv.setStream (h : Lv w g l A1 c1 A2 c2 A3 c3 A4 c4) (s : List UInt8) : Lv (w.setCell ⟨g, 9, none⟩ (.string (st s))) g { l with stream := s } A1 c1 A2 c2 A3 c3 A4 c4 := by
  have hs : SameK rlKs w (w.setCell ⟨g, 9, none⟩ (.string (st s))) := SameK.setCell (p := ⟨g, 9, none⟩) h.blk (by decide) _
  exact ⟨h.blk.put 9 _, h.rd.same (hs.less (by decide)), KSl.same h.rg hs (by decide)⟩
theorem Lv.setLast (h : Lv w g l A1 c1 A2 c2 A3 c3 A4 c4) (n : Nat) : Lv (w.setCell ⟨g, 10, none⟩ (.int .u64 (n : Int))) g { l with last := n } A1 c1 A2 c2 A3 c3 A4 c4 := by
  have hs : SameK rlKs w (w.setCell ⟨g, 10, none⟩ (.int .u64 (n : Int))) := SameK.setCell (p := ⟨g, 10, none⟩) h.blk (by decide) _
  exact ⟨h.blk.put 10 _, h.rd.same (hs.less (by decide)), KSl.same h.rg hs (by decide)⟩
theorem Lv.setSynced (h : Lv w g l A1 c1 A2 c2 A3 c3 A4 c4) (n : Nat) : Lv (w.setCell ⟨g, 11, none⟩ (.int .u64 (n : Int))) g { l with synced := n } A1 c1 A2 c2 A3 c3 A4 c4 := by
  have hs : SameK rlKs w (w.setCell ⟨g, 11, none⟩ (.int .u64 (n : Int))) := SameK.setCell (p := ⟨g, 11, none⟩) h.blk (by decide) _
  exact ⟨h.blk.put 11 _, h.rd.same (hs.less (by decide)), KSl.same h.rg hs (by decide)⟩
theorem Lv.setLive (h : Lv w g l A1 c1 A2 c2 A3 c3 A4 c4) {xs : List Sg} (hx : Rgr w (.slice B4 xs.length d4) xs) : Lv (w.setCell ⟨g, 8, none⟩ (.slice B4 xs.length d4)) g { l with live := xs } A1 c1 A2 c2 A3 c3 B4 d4 := by
  have hs : SameK rlKs w (w.setCell ⟨g, 8, none⟩ (.slice B4 xs.length d4)) := SameK.setCell (p := ⟨g, 8, none⟩) h.blk (by decide) _
  exact ⟨h.blk.put 8 _, h.rd.same (hs.less (by decide)), KSl.same hx hs (by decide)⟩
end

/-- A function on a log: the log (its parameter), the result's place. -/
structure Lf (w wr : World) (l : Wl) (A1 : Option Addr) (c1 : Nat) (A2 : Option Addr) (c2 : Nat) (A3 : Option Addr) (c3 : Nat) (A4 : Option Addr) (c4 : Nat) (Z : Array Value) : Prop where
  v : Lv wr w.heap.size l A1 c1 A2 c2 A3 c3 A4 c4
  z : Blk wr (w.heap.size + 1) 43 Z
  below : Below w.heap.size w wr
section
variable {w wr w' : World} {l : Wl} {A1 A2 A3 A4 B1 B2 B3 B4 : Option Addr} {c1 c2 c3 c4 d1 d2 d3 d4 : Nat} {Z : Array Value}
theorem Lf.start {v : Value} (hD : RDd w (.agg #[.int .i64 l.D.size, .int .i64 l.D.limit, .slice A1 l.D.nv c1, .slice A2 l.D.ng c2, .slice A3 l.D.pend.length c3]) l.D) (hG : Rgr w (.slice A4 l.live.length c4) l.live) (Z : Array Value) :
    Lf w ((w.alloc (.cells (rlC l A1 c1 A2 c2 A3 c3 A4 c4) 43)).alloc (.cells Z 43)) l A1 c1 A2 c2 A3 c3 A4 c4 Z := by
  have s := LbSt.start w (rlC l A1 c1 A2 c2 A3 c3 A4 c4) Z
  exact ⟨⟨s.d, hD.later s.below, KSl.later hG s.below⟩, s.r, s.below⟩
theorem Lf.to (h : Lf w wr l A1 c1 A2 c2 A3 c3 A4 c4 Z) (hb : Below wr.heap.size wr w') : Lf w w' l A1 c1 A2 c2 A3 c3 A4 c4 Z := ⟨h.v.later hb, h.z.later hb, h.below.trans (hb.mono h.below.size)⟩
theorem Lf.setD (h : Lf w wr l A1 c1 A2 c2 A3 c3 A4 c4 Z) {E : Dsk} (hd : RDd wr (.agg #[.int .i64 E.size, .int .i64 E.limit, .slice B1 E.nv d1, .slice B2 E.ng d2, .slice B3 E.pend.length d3]) E) :
    Lf w (putD wr w.heap.size (.int .i64 E.size) (.int .i64 E.limit) (.slice B1 E.nv d1) (.slice B2 E.ng d2) (.slice B3 E.pend.length d3)) { l with D := E } B1 d1 B2 d2 B3 d3 A4 c4 Z :=
  ⟨h.v.setD hd, h.z.away5 (by omega) _ _ _ _ _, below_put5 h.below (Nat.le_refl _) _ _ _ _ _⟩
theorem Lf.setStream (h : Lf w wr l A1 c1 A2 c2 A3 c3 A4 c4 Z) (s : List UInt8) : Lf w (wr.setCell ⟨w.heap.size, 9, none⟩ (.string (st s))) { l with stream := s } A1 c1 A2 c2 A3 c3 A4 c4 Z := ⟨h.v.setStream s, h.z.other (by omega) _ _, h.below.setCell (Nat.le_refl _) _⟩
theorem Lf.setLast (h : Lf w wr l A1 c1 A2 c2 A3 c3 A4 c4 Z) (n : Nat) : Lf w (wr.setCell ⟨w.heap.size, 10, none⟩ (.int .u64 (n : Int))) { l with last := n } A1 c1 A2 c2 A3 c3 A4 c4 Z := ⟨h.v.setLast n, h.z.other (by omega) _ _, h.below.setCell (Nat.le_refl _) _⟩
theorem Lf.setSynced (h : Lf w wr l A1 c1 A2 c2 A3 c3 A4 c4 Z) (n : Nat) : Lf w (wr.setCell ⟨w.heap.size, 11, none⟩ (.int .u64 (n : Int))) { l with synced := n } A1 c1 A2 c2 A3 c3 A4 c4 Z := ⟨h.v.setSynced n, h.z.other (by omega) _ _, h.below.setCell (Nat.le_refl _) _⟩
theorem Lf.setLive (h : Lf w wr l A1 c1 A2 c2 A3 c3 A4 c4 Z) {xs : List Sg} (hx : Rgr wr (.slice B4 xs.length d4) xs) : Lf w (wr.setCell ⟨w.heap.size, 8, none⟩ (.slice B4 xs.length d4)) { l with live := xs } A1 c1 A2 c2 A3 c3 B4 d4 Z := ⟨h.v.setLive hx, h.z.other (by omega) _ _, h.below.setCell (Nat.le_refl _) _⟩
/-- The result is laid. -/
theorem Lf.ret {l' : Wl} {z0 z1 z2 z3 z4 z5 z6 z7 z8 z9 z10 z11 : Value} (h : Lf w wr l A1 c1 A2 c2 A3 c3 A4 c4 #[z0, z1, z2, z3, z4, z5, z6, z7, z8, z9, z10, z11]) {x0 x1 x2 x3 x4 x5 x6 x7 x8 x9 x10 x11 : Value} (hr : RLg wr (.agg #[x0, x1, x2, x3, x4, x5, x6, x7, x8, x9, x10, x11]) l') :
    Blk (put12 wr (w.heap.size + 1) x0 x1 x2 x3 x4 x5 x6 x7 x8 x9 x10 x11) (w.heap.size + 1) 43 #[x0, x1, x2, x3, x4, x5, x6, x7, x8, x9, x10, x11] ∧ RLg (put12 wr (w.heap.size + 1) x0 x1 x2 x3 x4 x5 x6 x7 x8 x9 x10 x11) (.agg #[x0, x1, x2, x3, x4, x5, x6, x7, x8, x9, x10, x11]) l' ∧ Below w.heap.size w (put12 wr (w.heap.size + 1) x0 x1 x2 x3 x4 x5 x6 x7 x8 x9 x10 x11) :=
  ⟨h.z.put12 _ _ _ _ _ _ _ _ _ _ _ _, hr.same (SameK.puts12 h.z (by decide) _ _ _ _ _ _ _ _ _ _ _ _), below_put12 h.below (by omega) _ _ _ _ _ _ _ _ _ _ _ _⟩
theorem Lf.rets {z0 z1 z2 z3 z4 z5 z6 z7 z8 z9 z10 z11 : Value} (h : Lf w wr l A1 c1 A2 c2 A3 c3 A4 c4 #[z0, z1, z2, z3, z4, z5, z6, z7, z8, z9, z10, z11]) {x0 x1 x2 x3 x4 x5 x6 x7 x8 x9 x10 x11 : Value} :
    RDd (put12 wr (w.heap.size + 1) x0 x1 x2 x3 x4 x5 x6 x7 x8 x9 x10 x11) (.agg #[.int .i64 l.D.size, .int .i64 l.D.limit, .slice A1 l.D.nv c1, .slice A2 l.D.ng c2, .slice A3 l.D.pend.length c3]) l.D ∧ Rgr (put12 wr (w.heap.size + 1) x0 x1 x2 x3 x4 x5 x6 x7 x8 x9 x10 x11) (.slice A4 l.live.length c4) l.live := by
  have hs : SameK rlKs wr (put12 wr (w.heap.size + 1) x0 x1 x2 x3 x4 x5 x6 x7 x8 x9 x10 x11) := SameK.puts12 h.z (by decide) _ _ _ _ _ _ _ _ _ _ _ _
  exact ⟨h.v.rd.same (hs.less (by decide)), KSl.same h.v.rg hs (by decide)⟩
end

set_option maxHeartbeats 4000000 in
set_option maxRecDepth 100000 in
theorem refWSync_any (v : Value) (l : Wl) (w : World) (hr : RLg w v l) :
    Calls Tryz.prog 16 #[v] w fun e w' => ∃ v', e = .returned v' ∧ RLg w' v' l.sync ∧ Below w.heap.size w w' := by
  obtain ⟨A1, c1, A2, c2, A3, c3, A4, c4, rfl, HD, HG⟩ := hr
  have S0 := Lib.hid (Lf.start (v := .int .i64 0) HD.out HG.out #[.int .i64 0, .int .i64 0, .slice none 0 0, .slice none 0 0, .slice none 0 0, .int .i64 0, .int .i64 0, .int .i64 0, .slice none 0 0, .string (st []), .int .u64 0, .int .u64 0])
  clear HD HG
  unfold rlC at *
  go_enter Tryz.func16, Tryz.ntmps16
  go_wp2_with fail
  refine (rdsync_any _ l.D _ S0.out.v.rd).mono ?_
  rintro e w1 ⟨v1, rfl, h1, hb1⟩
  obtain ⟨B1, d1, B2, d2, B3, d3, rfl⟩ := h1.shape
  have S1 := Lib.hid (S0.out.to hb1)
  have HD1 := Lib.hid h1
  clear h1 hb1 S0
  have d0 : (w1).cell? ⟨w.heap.size, 0, none⟩ = some (.int .i64 l.D.size) := S1.out.v.blk.cell 0
  have d1 : (w1).cell? ⟨w.heap.size, 1, none⟩ = some (.int .i64 l.D.limit) := S1.out.v.blk.cell 1
  have d2 : (w1).cell? ⟨w.heap.size, 2, none⟩ = some (.slice A1 l.D.nv c1) := S1.out.v.blk.cell 2
  have d3 : (w1).cell? ⟨w.heap.size, 3, none⟩ = some (.slice A2 l.D.ng c2) := S1.out.v.blk.cell 3
  have d4 : (w1).cell? ⟨w.heap.size, 4, none⟩ = some (.slice A3 l.D.pend.length c3) := S1.out.v.blk.cell 4
  have d5 : (w1).cell? ⟨w.heap.size, 5, none⟩ = some (.int .i64 l.a) := S1.out.v.blk.cell 5
  have d6 : (w1).cell? ⟨w.heap.size, 6, none⟩ = some (.int .i64 (l.n : Int)) := S1.out.v.blk.cell 6
  have d7 : (w1).cell? ⟨w.heap.size, 7, none⟩ = some (.int .i64 (l.size : Int)) := S1.out.v.blk.cell 7
  have d8 : (w1).cell? ⟨w.heap.size, 8, none⟩ = some (.slice A4 l.live.length c4) := S1.out.v.blk.cell 8
  have d9 : (w1).cell? ⟨w.heap.size, 9, none⟩ = some (.string (st l.stream)) := S1.out.v.blk.cell 9
  have d10 : (w1).cell? ⟨w.heap.size, 10, none⟩ = some (.int .u64 (l.last : Int)) := S1.out.v.blk.cell 10
  have d11 : (w1).cell? ⟨w.heap.size, 11, none⟩ = some (.int .u64 (l.synced : Int)) := S1.out.v.blk.cell 11
  have df0 : (w1).frozen? ⟨w.heap.size, 0, none⟩ = false := S1.out.v.blk.free 0
  have df1 : (w1).frozen? ⟨w.heap.size, 1, none⟩ = false := S1.out.v.blk.free 1
  have df2 : (w1).frozen? ⟨w.heap.size, 2, none⟩ = false := S1.out.v.blk.free 2
  have df3 : (w1).frozen? ⟨w.heap.size, 3, none⟩ = false := S1.out.v.blk.free 3
  have df4 : (w1).frozen? ⟨w.heap.size, 4, none⟩ = false := S1.out.v.blk.free 4
  have df5 : (w1).frozen? ⟨w.heap.size, 5, none⟩ = false := S1.out.v.blk.free 5
  have df6 : (w1).frozen? ⟨w.heap.size, 6, none⟩ = false := S1.out.v.blk.free 6
  have df7 : (w1).frozen? ⟨w.heap.size, 7, none⟩ = false := S1.out.v.blk.free 7
  have df8 : (w1).frozen? ⟨w.heap.size, 8, none⟩ = false := S1.out.v.blk.free 8
  have df9 : (w1).frozen? ⟨w.heap.size, 9, none⟩ = false := S1.out.v.blk.free 9
  have df10 : (w1).frozen? ⟨w.heap.size, 10, none⟩ = false := S1.out.v.blk.free 10
  have df11 : (w1).frozen? ⟨w.heap.size, 11, none⟩ = false := S1.out.v.blk.free 11
  have r0 : (w1).cell? ⟨w.heap.size + 1, 0, none⟩ = some (.int .i64 0) := S1.out.z.cell 0
  have r1 : (w1).cell? ⟨w.heap.size + 1, 1, none⟩ = some (.int .i64 0) := S1.out.z.cell 1
  have r2 : (w1).cell? ⟨w.heap.size + 1, 2, none⟩ = some (.slice none 0 0) := S1.out.z.cell 2
  have r3 : (w1).cell? ⟨w.heap.size + 1, 3, none⟩ = some (.slice none 0 0) := S1.out.z.cell 3
  have r4 : (w1).cell? ⟨w.heap.size + 1, 4, none⟩ = some (.slice none 0 0) := S1.out.z.cell 4
  have r5 : (w1).cell? ⟨w.heap.size + 1, 5, none⟩ = some (.int .i64 0) := S1.out.z.cell 5
  have r6 : (w1).cell? ⟨w.heap.size + 1, 6, none⟩ = some (.int .i64 0) := S1.out.z.cell 6
  have r7 : (w1).cell? ⟨w.heap.size + 1, 7, none⟩ = some (.int .i64 0) := S1.out.z.cell 7
  have r8 : (w1).cell? ⟨w.heap.size + 1, 8, none⟩ = some (.slice none 0 0) := S1.out.z.cell 8
  have r9 : (w1).cell? ⟨w.heap.size + 1, 9, none⟩ = some (.string (st [])) := S1.out.z.cell 9
  have r10 : (w1).cell? ⟨w.heap.size + 1, 10, none⟩ = some (.int .u64 0) := S1.out.z.cell 10
  have r11 : (w1).cell? ⟨w.heap.size + 1, 11, none⟩ = some (.int .u64 0) := S1.out.z.cell 11
  have rf0 : (w1).frozen? ⟨w.heap.size + 1, 0, none⟩ = false := S1.out.z.free 0
  have rf1 : (w1).frozen? ⟨w.heap.size + 1, 1, none⟩ = false := S1.out.z.free 1
  have rf2 : (w1).frozen? ⟨w.heap.size + 1, 2, none⟩ = false := S1.out.z.free 2
  have rf3 : (w1).frozen? ⟨w.heap.size + 1, 3, none⟩ = false := S1.out.z.free 3
  have rf4 : (w1).frozen? ⟨w.heap.size + 1, 4, none⟩ = false := S1.out.z.free 4
  have rf5 : (w1).frozen? ⟨w.heap.size + 1, 5, none⟩ = false := S1.out.z.free 5
  have rf6 : (w1).frozen? ⟨w.heap.size + 1, 6, none⟩ = false := S1.out.z.free 6
  have rf7 : (w1).frozen? ⟨w.heap.size + 1, 7, none⟩ = false := S1.out.z.free 7
  have rf8 : (w1).frozen? ⟨w.heap.size + 1, 8, none⟩ = false := S1.out.z.free 8
  have rf9 : (w1).frozen? ⟨w.heap.size + 1, 9, none⟩ = false := S1.out.z.free 9
  have rf10 : (w1).frozen? ⟨w.heap.size + 1, 10, none⟩ = false := S1.out.z.free 10
  have rf11 : (w1).frozen? ⟨w.heap.size + 1, 11, none⟩ = false := S1.out.z.free 11
  have S2 := (S1.out.setD HD1.out).setSynced l.last
  have HF := Lib.hid (S2.ret S2.v.val)
  clear S2
  go_wp2_with fail
  exact bodyPost_ret (results_cell1 rfl _ _ (w.heap.size + 1) rfl HF.out.1 logTy) rfl ⟨_, rfl, HF.out.2.1, HF.out.2.2⟩
end Go.Proofs.YtojlldalhhibmaaGreatDoor
