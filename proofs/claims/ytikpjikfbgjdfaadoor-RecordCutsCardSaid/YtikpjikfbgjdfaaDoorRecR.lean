/- lapstoneref07: Put, Get, Same, Scan: what they return. -/
import Derived.Test.YtikpjikfbgjdfaaDoorRecS
import Derived.Test.YtikpjikfbgjdfaaDoorRef3T
import Derived.Test.YtikpjikfbgjdfaaDoorSumB
import Derived.Test.YtikpjikfbgjdfaaDoorNumR
namespace Go.Proofs.YtikpjikfbgjdfaaDoor
open Go Go.RowKit
set_option linter.unusedVariables false

def refRPutV (q : Nat) (t : List UInt8) : Value := if 32768 < t.length then .tuple #[.string (st []), .int .i64 70] else .tuple #[.string (st (recB q t)), .int .i64 0]

set_option maxHeartbeats 1000000 in
set_option maxRecDepth 100000 in
theorem refRPut_any (q : Nat) (t : List UInt8) (w : World) (hq : q < U64) (ht : t.length ≤ 1099511627776) :
    Calls Tryd.prog 10 #[.agg #[.int .u64 (q : Int), .string (st t)]] w fun e w' => e = .returned (refRPutV q t) ∧ Below w.heap.size w w' := by
  have hb0 := Blk.new w 24 #[.int .u64 (q : Int), .string (st t)]
  have q0 : Below w.heap.size w (w.alloc (.cells #[.int .u64 (q : Int), .string (st t)] 24)) := (Below.refl _ _).alloc (Nat.le_refl _) _
  have d0 : (w.alloc (.cells #[.int .u64 (q : Int), .string (st t)] 24)).cell? ⟨w.heap.size, 0, none⟩ = some (.int .u64 (q : Int)) := hb0.cell 0
  have d1 : (w.alloc (.cells #[.int .u64 (q : Int), .string (st t)] 24)).cell? ⟨w.heap.size, 1, none⟩ = some (.string (st t)) := hb0.cell 1
  by_cases hl : 32768 < t.length
  · have HV : Hid (refRPutV q t = .tuple #[.string (st []), .int .i64 70]) := by unfold refRPutV; rw [Hid, if_pos hl]
    go_enter Tryd.func10, Tryd.ntmps10
    go_wp2_with fail
    go_ret2
    rw [HV.out]
    exact ⟨rfl, q0⟩
  · have HV : Hid (refRPutV q t = .tuple #[.string (st (recB q t)), .int .i64 0]) := by unfold refRPutV; rw [Hid, if_neg hl]
    have HF := Lib.hid (recF_len hq (show t.length ≤ 32768 by omega))
    have hv1 := varB_le10 hq
    have htx := textB_len (s := t) (by omega)
    have hfl : (varB q ++ textB t).length ≤ 1099511627776 := by rw [List.length_append]; omega
    have hadd : ¬ 9223372036854775807 < (varB q).length + (textB t).length := by omega
    have hs := fun (wg : World) => refSeal_any (varB q ++ textB t) wg hfl
    have HR : Hid (beB (recS q t).length 4 ++ recS q t = recB q t) := rfl
    have HL : (recS q t).length ≤ 32804 := by rw [recS_len]; have := HF.out; omega
    rw [show varB q ++ textB t ++ beB (sumOf (varB q ++ textB t)).toNat 4 = recS q t from rfl] at hs
    generalize recS q t = sl at *
    have hwr : IntKind.u64.wrap (sl.length : Int) = (sl.length : Int) := wrap_u64 (by omega) (by unfold U64; omega)
    have hb4 : (beB sl.length 4).length = 4 := beB_length _ _
    go_enter Tryd.func10, Tryd.ntmps10
    go_wp2_with fail
    refine wp_region_grow_lit (by kernel_rfl) (by kernel_rfl) ?_
    apply Exists.intro
    apply And.intro
    · repeat (first
        | (apply wpGrow_skip rfl
           intro K hK
           go_simp
           refine hK _ ?_
           clear hK K)
        | (apply wpGrow_is rfl
           · intro wg hwg _
             have c0 := cell_later hwg d0
             have c1 := cell_later hwg d1
             unfold grows
             go_simp
             first
               | exact grows_value _ _
               | (apply grows_call; go_at_call 21; exact refVar_any q wg hq)
               | (apply grows_call; go_at_call 22; exact refText_any t wg ht)
               | (apply grows_call; go_at_call 17; exact hs wg)
           intro K hK
           go_simp
           refine hK _ ?_
           clear hK K))
      refine wpGrow_end (fun wg hwg _ => ?_)
      go_wp2_with fail
      refine (refPut_any sl.length 4 wg (by unfold U64; omega) (by omega) (by omega)).mono ?_
      rintro e w2 ⟨rfl, hbl2⟩
      go_wp2_with fail
      go_ret2
      rw [HV.out, HR.out]
      exact ⟨rfl, (q0.trans (hwg.mono q0.size)).trans (hbl2.mono (q0.trans (hwg.mono q0.size)).size)⟩
    · apply And.intro
      · repeat (first | exact trivial | (refine ⟨Stays.is _, ?_⟩) | (refine ⟨Stays.bs _, ?_⟩))
      · rfl

theorem rdNum_numV (f : List UInt8) : rdNum f 0 = numV f := by
  unfold rdNum numV
  rw [if_neg (by simp)]
  cases getVarB f with
  | error er => rfl
  | ok xn => rfl
theorem recIn_num {f : List UInt8} {n q : Nat} {r : List UInt8} {er : Nat} (h : rdNum f 0 = (q, r, er)) :
    recIn f n = if er = 0 ∧ (rdText r 0).2.2 = 0 ∧ (rdText r 0).2.1 = [] ∧ (rdText r 0).1.length ≤ 32768 then some ((q, (rdText r 0).1), 4 + n) else none := by
  unfold recIn
  rw [h]
  simp only
  by_cases he : er = 0
  · subst he
    by_cases hc : (rdText r 0).2.2 = 0 ∧ (rdText r 0).2.1 = [] ∧ (rdText r 0).1.length ≤ 32768
    · rw [if_pos hc, if_pos ⟨rfl, hc⟩]
    · rw [if_neg hc, if_neg (fun h => hc h.2)]
  · have e : rdText r er = ([], r, er) := by unfold rdText; rw [if_pos he]
    rw [e, if_neg (fun h => he h.1), if_neg (fun h => he h.1)]

set_option maxHeartbeats 4000000 in
set_option maxRecDepth 100000 in
theorem refRGet_any (l : List UInt8) (w : World) (hl : l.length ≤ 1099511627776) :
    Calls Tryd.prog 13 #[.string (st l)] w fun e w' => e = .returned (rgetV (recGet l)) ∧ Below w.heap.size w w' := by
  have hb0 := (Blk.new w 24 #[.int .u64 0, .string ⟨#[]⟩]).alloc (.cells #[.int .u64 0, .string ⟨#[]⟩] 24)
  have hb1 := Blk.new (w.alloc (.cells #[.int .u64 0, .string ⟨#[]⟩] 24)) 24 #[.int .u64 0, .string ⟨#[]⟩]
  rw [show (w.alloc (.cells #[.int .u64 0, .string ⟨#[]⟩] 24)).heap.size = w.heap.size + 1 by simp] at hb1
  have q0 : Below w.heap.size w ((w.alloc (.cells #[.int .u64 0, .string ⟨#[]⟩] 24)).alloc (.cells #[.int .u64 0, .string ⟨#[]⟩] 24)) := ((Below.refl _ _).alloc (Nat.le_refl _) _).alloc (by simp) _
  by_cases h4 : l.length < 4
  · have HN : Hid (recGet l = none) := by unfold recGet; rw [Hid, if_pos (.inl h4)]
    go_enter Tryd.func13, Tryd.ntmps13
    go_wp2_with fail
    exact bodyPost_ret (results_cell3 rfl _ _ w.heap.size rfl hb0 recTy) rfl ⟨by rw [HN.out]; rfl, q0⟩
  · have h4' : 4 ≤ l.length := by omega
    have ht4 : (l.take 4).length = 4 := by rw [List.length_take]; omega
    have hG0 : ¬ (l.drop 4).length < deB (l.take 4) → recGet l = recOp (l.drop 4) (deB (l.take 4)) := fun h => recGet_op (by omega)
    go_enter Tryd.func13, Tryd.ntmps13
    go_wp2_with fail
    have HG := Lib.hid hG0
    generalize hW : (w.alloc (.cells #[.int .u64 0, .string ⟨#[]⟩] 24)).alloc (.cells #[.int .u64 0, .string ⟨#[]⟩] 24) = W at *
    clear hW hG0
    refine (refGet_any (l.take 4) W (by omega)).mono ?_
    rintro e w1 ⟨rfl, rfl⟩
    have hd4 : deB (l.take 4) < 4294967296 := Nat.lt_of_lt_of_le (deB_take_lt l 4) (by decide)
    have HLN := Lib.hid (show (l.drop 4).length = l.length - 4 by rw [List.length_drop])
    have hwl : IntKind.u64.wrap ((l.length : Int) - 4) = ((l.length - 4 : Nat) : Int) := by rw [show ((l.length : Int) - 4) = ((l.length - 4 : Nat) : Int) by omega]; exact wrap_u64 (by omega) (by unfold U64; omega)
    by_cases hn : l.length - 4 < deB (l.take 4)
    · have HN : Hid (recGet l = none) := by unfold recGet; rw [Hid, if_pos (.inr (by rw [HLN.out]; exact hn))]
      have d0 := hb1.cell 0
      have c0 := hb0.cell 0
      have f0 := hb0.free 0
      have d1 := hb1.cell 1
      have c1 := hb0.cell 1
      have f1 := hb0.free 1
      simp at d0 d1 c0 c1
      generalize deB (l.take 4) = n at *
      have t0 : decide (l.length - 4 < n) = true := by rw [decide_eq_true_eq]; exact hn
      go_wp2_with fail
      exact bodyPost_ret (results_cell3 rfl _ _ w.heap.size rfl (hb0.put2 _ _) recTy) rfl ⟨by rw [HN.out]; rfl, (q0.setCell (Nat.le_refl _) _).setCell (Nat.le_refl _) _⟩
    · have hG := HG.out (by rw [HLN.out]; exact hn)
      have HG2 := Lib.hid hG
      have hdl : (l.drop 4).length ≤ 1099511627776 := by rw [List.length_drop]; omega
      have HT := Lib.hid (show ((l.drop 4).take (deB (l.take 4))).length ≤ 1099511627776 by rw [List.length_take]; omega)
      have hn2 : 4 + deB (l.take 4) ≤ l.length := by omega
      have t0 : decide (l.length - 4 < deB (l.take 4)) = false := by rw [decide_eq_false_iff_not]; exact hn
      have hwn : IntKind.i64.wrap (4 + (deB (l.take 4) : Int)) = 4 + (deB (l.take 4) : Int) := IntWalk.i64_in _ (by omega)
      have hwn2 : IntKind.i64.wrap (deB (l.take 4) : Int) = (deB (l.take 4) : Int) := IntWalk.i64_in _ (by omega)
      have hwn3 : IntKind.u64.wrap (4 + (deB (l.take 4) : Int)) = 4 + (deB (l.take 4) : Int) := wrap_u64 (by omega) (by unfold U64; omega)
      generalize deB (l.take 4) = n at *
      clear hG hn HG
      go_wp2_with fail
      refine (refOpen_any ((l.drop 4).take n) W HT.out).mono ?_
      rintro e w1 ⟨rfl, hbl1⟩
      have hb2 := hb0.later hbl1
      have hb3 := hb1.later hbl1
      have q1 := q0.trans (hbl1.mono q0.size)
      have hs1 := q1.size
      cases ho : openB ((l.drop 4).take n) with
      | error er =>
        have HN : Hid (recGet l = none) := by rw [Hid, HG2.out, recOp, ho]
        have d0 := hb3.cell 0
        have c0 := hb2.cell 0
        have f0 := hb2.free 0
        have d1 := hb3.cell 1
        have c1 := hb2.cell 1
        have f1 := hb2.free 1
        simp at d0 d1 c0 c1
        have t1 : ((er : Int) != 0) = true := by
          rw [bne_iff_ne]
          rcases openB_err ho with rfl | rfl <;> decide
        unfold refOpenV
        clear ho
        go_wp2_with fail
        exact bodyPost_ret (results_cell3 rfl _ _ w.heap.size rfl (hb2.put2 _ _) recTy) rfl ⟨by rw [HN.out]; rfl, (q1.setCell (Nat.le_refl _) _).setCell (Nat.le_refl _) _⟩
      | ok f =>
        have hfl : f.length ≤ 1099511627776 := Nat.le_trans (openB_len ho) HT.out
        have HG3 : Hid (recGet l = recIn f n) := by rw [Hid, HG2.out, recOp, ho]
        unfold refOpenV
        clear ho HG2
        go_wp2_with fail
        refine (refNum_any f w1 hfl).mono ?_
        rintro e w2 ⟨rfl, hbl2⟩
        have hb4 := hb2.later hbl2
        have hb5 := hb3.later hbl2
        have q2 := q1.trans (hbl2.mono hs1)
        have hs2 := q2.size
        have hle := numV_le f
        have HX := Lib.hid (rdNum_numV f)
        obtain ⟨X, hX⟩ : ∃ X, numV f = X := ⟨_, rfl⟩
        rw [hX] at HX hle ⊢
        obtain ⟨q, r, er⟩ := X
        simp only at hle
        simp only
        clear hbl2 hbl1 hX
        go_wp2_with fail
        refine (refTake_any r w2 (by omega)).mono ?_
        rintro e w3 ⟨rfl, hbl3⟩
        have hb6 := hb4.later hbl3
        have hb7 := hb5.later hbl3
        have q3 := q2.trans (hbl3.mono hs2)
        have hle3 := rdText_le r (e := 0) (Nat.zero_le _)
        have HG4 : Hid (recGet l = if er = 0 ∧ (rdText r 0).2.2 = 0 ∧ (rdText r 0).2.1 = [] ∧ (rdText r 0).1.length ≤ 32768 then some ((q, (rdText r 0).1), 4 + n) else none) := by rw [Hid, HG3.out, recIn_num HX.out]
        obtain ⟨Y, hY⟩ : ∃ Y, rdText r 0 = Y := ⟨_, rfl⟩
        rw [hY] at hle3 HG4 ⊢
        obtain ⟨t, r5, e5⟩ := Y
        simp only at hle3 HG4
        clear hY
        unfold takeV fldC
        have hb8 := hb6.alloc (.cells #[.int .i64 1, .int .u64 0, .string (st t), .bool false, .int .i64 0] 70)
        have hb9 := hb7.alloc (.cells #[.int .i64 1, .int .u64 0, .string (st t), .bool false, .int .i64 0] 70)
        have hbn := Blk.new w3 70 #[.int .i64 1, .int .u64 0, .string (st t), .bool false, .int .i64 0]
        have q4 := q3.alloc q3.size (.cells #[.int .i64 1, .int .u64 0, .string (st t), .bool false, .int .i64 0] 70)
        have n2 := hbn.cell 2
        simp at n2
        have d0 := hb9.cell 0
        have c0 := hb8.cell 0
        have f0 := hb8.free 0
        have d1 := hb9.cell 1
        have c1 := hb8.cell 1
        have f1 := hb8.free 1
        simp at d0 d1 c0 c1
        clear hb0 hb1 hb2 hb3 hb4 hb5 hb6 hb7 hb9 hbl3 HX
        by_cases he : er = 0
        · by_cases he5 : e5 = 0
          · rcases r5 with _ | ⟨b5, r5⟩
            · by_cases ht : t.length ≤ 32768
              · have HN : Hid (recGet l = some ((q, t), 4 + n)) := by rw [Hid, HG4.out, if_pos ⟨he, he5, rfl, ht⟩]
                subst he he5
                clear HG4
                go_wp2_with fail
                exact bodyPost_ret (results_cell3 rfl _ _ w.heap.size rfl (hb8.put2 _ _) recTy) rfl ⟨by rw [HN.out]; rfl, (q4.setCell (Nat.le_refl _) _).setCell (Nat.le_refl _) _⟩
              · have HN : Hid (recGet l = none) := by rw [Hid, HG4.out, if_neg (fun h => ht h.2.2.2)]
                subst he he5
                clear HG4
                go_wp2_with fail
                exact bodyPost_ret (results_cell3 rfl _ _ w.heap.size rfl (hb8.put2 _ _) recTy) rfl ⟨by rw [HN.out]; rfl, (q4.setCell (Nat.le_refl _) _).setCell (Nat.le_refl _) _⟩
            · have HN : Hid (recGet l = none) := by rw [Hid, HG4.out, if_neg (fun h => by cases h.2.2.1)]
              subst he he5
              clear HG4
              have hem : (b5 :: r5).isEmpty = false := rfl
              go_wp2_with fail
              exact bodyPost_ret (results_cell3 rfl _ _ w.heap.size rfl (hb8.put2 _ _) recTy) rfl ⟨by rw [HN.out]; rfl, (q4.setCell (Nat.le_refl _) _).setCell (Nat.le_refl _) _⟩
          · have HN : Hid (recGet l = none) := by rw [Hid, HG4.out, if_neg (fun h => he5 h.2.1)]
            have t1 : ((e5 : Int) != 0) = true := by rw [bne_iff_ne]; omega
            subst he
            clear HG4 he5
            go_wp2_with fail
            exact bodyPost_ret (results_cell3 rfl _ _ w.heap.size rfl (hb8.put2 _ _) recTy) rfl ⟨by rw [HN.out]; rfl, (q4.setCell (Nat.le_refl _) _).setCell (Nat.le_refl _) _⟩
        · have HN : Hid (recGet l = none) := by rw [Hid, HG4.out, if_neg (fun h => he h.1)]
          have t1 : ((er : Int) != 0) = true := by rw [bne_iff_ne]; omega
          clear HG4 he
          go_wp2_with fail
          exact bodyPost_ret (results_cell3 rfl _ _ w.heap.size rfl (hb8.put2 _ _) recTy) rfl ⟨by rw [HN.out]; rfl, (q4.setCell (Nat.le_refl _) _).setCell (Nat.le_refl _) _⟩
end Go.Proofs.YtikpjikfbgjdfaaDoor
