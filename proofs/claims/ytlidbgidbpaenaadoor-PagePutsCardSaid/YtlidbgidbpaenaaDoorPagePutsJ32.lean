/- What the proof of PagePuts needs, part 32. -/
import Derived.Test.YtlidbgidbpaenaaDoorPagePutsJ27
import Derived.Test.YtlidbgidbpaenaaDoorPagePutsJ31

namespace Go.Proofs.YtlidbgidbpaenaaDoor
open Go Go.RowKit
set_option linter.unusedVariables false

section
variable {cs : List Cel} {k : List UInt8} {i : Nat}
theorem at_lo (h : i < findK cs k) (hi : i < cs.length) : Op.bytesLess cs[i].1 k = true := findK_lt h
theorem at_hi (ha : Asc cs) (h : findK cs k ≤ i) (hi : i < cs.length) : Op.bytesLess cs[i].1 k = false := by
  rw [less_not]
  refine drop_ge (k := k) ha ?_
  rw [List.mem_iff_getElem]
  exact ⟨i - findK cs k, by rw [List.length_drop]; omega, by rw [List.getElem_drop]; congr 1; omega⟩
theorem at_ne (ha : Asc cs) (h : findK cs k < i) (hi : i < cs.length) : cs[i].1 ≠ k := by
  have hK : findK cs k < cs.length := by omega
  have h1 := at_hi (k := k) ha (Nat.le_refl _) hK
  unfold Asc at ha
  rw [List.pairwise_iff_getElem] at ha
  have h2 := ha _ _ hK hi h
  intro e
  rw [e] at h2
  exact less_not.1 h1 h2
theorem at_is (h : findK cs k < cs.length) : isK cs k = (cs[findK cs k].1 == k) := by
  unfold isK
  rw [List.getElem?_eq_getElem h]
theorem lo_ne (h : i < findK cs k) (hi : i < cs.length) : cs[i].1 ≠ k := by
  have := less_iff.1 (at_lo h hi)
  exact this.ne
end

set_option maxHeartbeats 8000000 in
set_option maxRecDepth 100000 in
theorem refPgPut_any (S : Nat → Prop) (leaf : Bool) (next : Int) (v0 : Value) (cs : List Cel) (k v : List UInt8) (w : World) (hl : cs.length ≤ 100000) (hr : Cs S w v0 cs) (hri : RisesP cs) :
    Calls Tryd.prog 29 #[.agg #[.bool leaf, .int .i64 next, v0], .agg #[.string (st k), .string (st v)]] w fun e w' => ∃ vq, e = .returned vq ∧ PgIs w.heap.size w' vq leaf next (putC cs (k, v)) ∧ Below w.heap.size w w' := by
  have hlt := hr.lt
  obtain ⟨A, c, rfl, hlc, hcm, hA0, hA⟩ := hlt.at
  have HA := Lib.hid hA
  have HAS := Lib.hid hri.asc
  clear hr hlt hri hA
  have hb0 : Blk ((((w.alloc (.cells #[.bool leaf, .int .i64 next, .slice A cs.length c] 24)).alloc (.cells #[.string (st k), .string (st v)] 47)).alloc (.cells #[.bool false, .int .i64 0, .slice none 0 0] 24)).alloc (.cells #[] 47)) w.heap.size 24 #[.bool leaf, .int .i64 next, .slice A cs.length c] := (((Blk.new _ _ _).alloc _).alloc _).alloc _
  have hb1 : Blk ((((w.alloc (.cells #[.bool leaf, .int .i64 next, .slice A cs.length c] 24)).alloc (.cells #[.string (st k), .string (st v)] 47)).alloc (.cells #[.bool false, .int .i64 0, .slice none 0 0] 24)).alloc (.cells #[] 47)) (w.heap.size + 1) 47 #[.string (st k), .string (st v)] := ((Blk.new1 _ _ _ _).alloc _).alloc _
  have hb2 : Blk ((((w.alloc (.cells #[.bool leaf, .int .i64 next, .slice A cs.length c] 24)).alloc (.cells #[.string (st k), .string (st v)] 47)).alloc (.cells #[.bool false, .int .i64 0, .slice none 0 0] 24)).alloc (.cells #[] 47)) (w.heap.size + 1 + 1) 24 #[.bool false, .int .i64 0, .slice none 0 0] := by
    have := (Blk.new1 (w.alloc (.cells #[.bool leaf, .int .i64 next, .slice A cs.length c] 24)) (.cells #[.string (st k), .string (st v)] 47) 24 #[.bool false, .int .i64 0, .slice none 0 0]).alloc (.cells #[] 47)
    simpa using this
  have hma : Co ((((w.alloc (.cells #[.bool leaf, .int .i64 next, .slice A cs.length c] 24)).alloc (.cells #[.string (st k), .string (st v)] 47)).alloc (.cells #[.bool false, .int .i64 0, .slice none 0 0] 24)).alloc (.cells #[] 47)) (w.heap.size + 1 + 1 + 1) (.slice (some ⟨w.heap.size + 1 + 1 + 1, 0, none⟩) 0 0) [] := by
    have := World.ownsRow_made (base := w.heap.size + 1 + 1 + 1) (e := 47) (size := 2) (((w.alloc (.cells #[.bool leaf, .int .i64 next, .slice A cs.length c] 24)).alloc (.cells #[.string (st k), .string (st v)] 47)).alloc (.cells #[.bool false, .int .i64 0, .slice none 0 0] 24)) #[] 0 (by simp) (by simp [maxLen]) (by simp)
    simp only [World.size_alloc] at this
    exact this
  have hq : Below w.heap.size w ((((w.alloc (.cells #[.bool leaf, .int .i64 next, .slice A cs.length c] 24)).alloc (.cells #[.string (st k), .string (st v)] 47)).alloc (.cells #[.bool false, .int .i64 0, .slice none 0 0] 24)).alloc (.cells #[] 47)) := ((((Below.refl _ _).alloc (Nat.le_refl _) _).alloc (by simp) _).alloc (by simp; omega) _).alloc (by simp; omega) _
  have hsW : ((((w.alloc (.cells #[.bool leaf, .int .i64 next, .slice A cs.length c] 24)).alloc (.cells #[.string (st k), .string (st v)] 47)).alloc (.cells #[.bool false, .int .i64 0, .slice none 0 0] 24)).alloc (.cells #[] 47)).heap.size = w.heap.size + 1 + 1 + 1 + 1 := by simp
  go_enter Tryd.func29, Tryd.ntmps29
  go_wp2_with fail
  generalize hW : ((((w.alloc (.cells #[.bool leaf, .int .i64 next, .slice A cs.length c] 24)).alloc (.cells #[.string (st k), .string (st v)] 47)).alloc (.cells #[.bool false, .int .i64 0, .slice none 0 0] 24)).alloc (.cells #[] 47)) = W at *
  clear hW
  have hsz : w.heap.size + 1 + 1 + 1 + 1 ≤ W.heap.size := by omega
  clear hsW
  have HB0 := Lib.hid hb0
  have HB1 := Lib.hid hb1
  have HB2 := Lib.hid hb2
  have HQ := Lib.hid hq
  have HMA := Lib.hid hma
  clear hb0 hb1 hb2 hq hma
  have HK : Hid (findK cs k ≤ cs.length) := findK_le cs k
  go_loopw [5, 6, 7] (fun ov dv iv wr => ∃ i : Nat, iv = .int .i64 (i : Int) ∧ i ≤ cs.length ∧ dv = .bool (decide (findK cs k < i)) ∧ Hid (Co wr (w.heap.size + 1 + 1 + 1) ov (outC cs (k, v) i)) ∧ Hid (Below (w.heap.size + 1 + 1 + 1) W wr)) (fun _ _ iv _ => cs.length - (intOf iv).toNat)
  case atStart => exact ⟨0, rfl, by omega, by simp, HMA.out, Below.refl _ _⟩
  case round =>
    obtain ⟨i, rfl, hi, rfl, HC, HB⟩ := hrel
    clear HMA
    have b0 := HB0.out.below HB.out (by omega)
    have b1 := HB1.out.below HB.out (by omega)
    have hqr := HQ.out.trans (HB.out.mono (by omega))
    have hsr := HB.out.size
    have p0 : (wr).cell? ⟨w.heap.size, 0, none⟩ = some (.bool leaf) := b0.cell 0
    have p1 : (wr).cell? ⟨w.heap.size, 1, none⟩ = some (.int .i64 next) := b0.cell 1
    have p2 : (wr).cell? ⟨w.heap.size, 2, none⟩ = some (.slice A cs.length c) := b0.cell 2
    have q0 : (wr).cell? ⟨w.heap.size + 1, 0, none⟩ = some (.string (st k)) := b1.cell 0
    have q1 : (wr).cell? ⟨w.heap.size + 1, 1, none⟩ = some (.string (st v)) := b1.cell 1
    have hol := outC_len (cs := cs) (c := (k, v)) hi
    obtain ⟨Ao, co, hov, -⟩ := HC.out.cs.at
    subst hov
    by_cases hil : i < cs.length
    · obtain ⟨b, o, rfl, hbs, hc⟩ := HA.out (by omega)
      have c0 : wr.cell? ⟨b, o + i * 2, none⟩ = some (.string (st cs[i].1)) := (hqr.cell (p := ⟨b, o + i * 2, none⟩) hbs).trans (hc i hil).1
      have c1 : wr.cell? ⟨b, o + i * 2 + 1, none⟩ = some (.string (st cs[i].2)) := (hqr.cell (p := ⟨b, o + i * 2 + 1, none⟩) hbs).trans (hc i hil).2
      have hi0 : (0 : Int) ≤ (i : Int) := by omega
      have hi1 : (i : Int) < (cs.length : Int) := by omega
      have HM1 : Hid ((outC cs (k, v) i).length + 1 ≤ maxLen) := by rw [Hid]; unfold maxLen; omega
      have HM2 : Hid (((outC cs (k, v) i).length + 1) * 32 ≤ 140737488355328) := by rw [Hid]; omega
      have HM3 : Hid ((outC cs (k, v) i ++ [(k, v)]).length + 1 ≤ maxLen) := by rw [Hid, List.length_append]; unfold maxLen; simp; omega
      have HM4 : Hid (((outC cs (k, v) i ++ [(k, v)]).length + 1) * 32 ≤ 140737488355328) := by rw [Hid, List.length_append]; simp; omega
      have HCm : Hid (∀ m (y : Cel), Co ((wr.drewN m).alloc (.cells #[.string (st y.1), .string (st y.2)] 47)) (w.heap.size + 1 + 1 + 1) (.slice Ao (outC cs (k, v) i).length co) (outC cs (k, v) i)) := fun m y => HC.out.later ((below_drewN (Below.refl _ _) m).alloc (Nat.le_refl _) _)
      have HBm : Hid (∀ m, Below (w.heap.size + 1 + 1 + 1) W (wr.drewN m)) := fun m => below_drewN HB.out m
      have HXm : Hid (∀ (w : World) (y : Cel), Sl (fun b => b = w.heap.size) (w.alloc (.cells #[.string (st y.1), .string (st y.2)] 47)) 2 (.slice (some ⟨w.heap.size, 0, none⟩) 1 1) 1 (ccs [y])) := fun w y => Sl.celBlk (Blk.new _ _ _)
      rcases Nat.lt_trichotomy i (findK cs k) with h | h | h
      · have hless := at_lo h hil
        have hne := lo_ne h hil
        have d1 : decide (findK cs k < i) = false := decide_eq_false (by omega)
        have HD2 := Lib.hid (decide_eq_false (p := findK cs k < i + 1) (by omega))
        have HOX := Lib.hid (outC_lo (c := (k, v)) h hil)
        rw [d1]
        clear d1 h hc HK
        generalize hx : cs[i] = x at *
        obtain ⟨xk, xv⟩ := x
        simp only at c0 c1 hless hne
        have hne2 : (xk == k) = false := by rw [beq_eq_false_iff_ne]; exact hne
        have hne3 : decide (xk = k) = false := decide_eq_false hne
        clear hx
        go_wp2_with fail
        go_quiet (fail)
        go_wp2_with fail
        go_quiet (fail)
        go_wp2_with (at_builtin; refine wpList_append_sl _ rfl (.tmp 42) (.tmp 48) elemCel rfl (HCm.out _ (xk, xv)) (HXm.out _ (xk, xv)) rfl rfl (one_cel (xk, xv)) HM1.out HM2.out (by simp; omega) ?_; intro A5 k5 c5 w5 hown5 hg5 hat5)
        obtain rfl := own_len hown5
        have HC5 : Hid (Co w5 (w.heap.size + 1 + 1 + 1) (.slice A5 ((outC cs (k, v) i).length + 1) c5) (outC cs (k, v) (i + 1))) := by rw [Hid, HOX.out]; unfold Co; rw [List.length_append, List.length_singleton, ccs_append]; exact hown5
        have HB5 := Lib.hid (below_grown_own ((HBm.out _).alloc (by simp; omega) _) (HCm.out _ (xk, xv)) hg5 (by simp; omega))
        clear hown5 hg5 hat5
        go_wp2_with fail
        go_roundw
        case rel => exact ⟨i + 1, by go_num, by omega, by rw [HD2.out], HC5, HB5⟩
        case measure => simp [intOf]; omega
      · subst h
        have hless := at_hi (k := k) HAS.out (Nat.le_refl _) hil
        have his := at_is hil
        have d1 : decide (findK cs k < findK cs k) = false := decide_eq_false (by omega)
        have HD2 := Lib.hid (decide_eq_true (p := findK cs k < findK cs k + 1) (by omega))
        have HOX := Lib.hid (outC_at (c := (k, v)) hil)
        have hcc := hc _ hil
        rw [d1]
        clear d1 hc HK
        simp only at HOX
        rw [his] at HOX
        clear his
        generalize cs[findK cs k] = x at *
        obtain ⟨xk, xv⟩ := x
        simp only at c0 c1 hless HOX hcc
        cases hxk : (xk == k) with
        | true =>
          rw [hxk, if_pos rfl] at HOX
          obtain rfl := (eq_of_beq hxk).symm
          clear hxk
          go_wp2_with fail
          go_quiet (fail)
          go_wp2_with (at_builtin; refine wpList_append_sl _ rfl (.tmp 29) (.tmp 31) elemCel rfl (HCm.out _ (k, v)) (HXm.out _ (k, v)) rfl rfl (one_cel (k, v)) HM1.out HM2.out (by simp; omega) ?_; intro A5 k5 c5 w5 hown5 hg5 hat5)
          obtain rfl := own_len hown5
          have HC5 : Hid (Co w5 (w.heap.size + 1 + 1 + 1) (.slice A5 ((outC cs (k, v) (findK cs k)).length + 1) c5) (outC cs (k, v) (findK cs k) ++ [(k, v)])) := by rw [Hid]; unfold Co; rw [List.length_append, List.length_singleton, ccs_append]; exact hown5
          have HB5 := Lib.hid (below_grown_own ((HBm.out _).alloc (by simp; omega) _) (HCm.out _ (k, v)) hg5 (by simp; omega))
          have hs5 := HB5.out.size
          clear hown5 hg5 hat5 p0 p1 p2 q0 q1 b0 b1
          have b0 := HB0.out.below HB5.out (by omega)
          have b1 := HB1.out.below HB5.out (by omega)
          have hq5 := HQ.out.trans (HB5.out.mono (by omega))
          have p0 : (w5).cell? ⟨w.heap.size, 0, none⟩ = some (.bool leaf) := b0.cell 0
          have p1 : (w5).cell? ⟨w.heap.size, 1, none⟩ = some (.int .i64 next) := b0.cell 1
          have p2 : (w5).cell? ⟨w.heap.size, 2, none⟩ = some (.slice (some ⟨b, o, none⟩) cs.length c) := b0.cell 2
          have q0 : (w5).cell? ⟨w.heap.size + 1, 0, none⟩ = some (.string (st k)) := b1.cell 0
          have q1 : (w5).cell? ⟨w.heap.size + 1, 1, none⟩ = some (.string (st v)) := b1.cell 1
          have c0 := (hq5.cell (p := ⟨b, o + findK cs k * 2, none⟩) hbs).trans hcc.1
          have c1 := (hq5.cell (p := ⟨b, o + findK cs k * 2 + 1, none⟩) hbs).trans hcc.2
          go_wp2_with fail
          go_quiet (fail)
          go_wp2_with fail
          go_roundw
          case rel => exact ⟨findK cs k + 1, by go_num, by omega, by rw [HD2.out], by rw [Hid, HOX.out]; exact (HC5.out.later (below_drewN (Below.refl _ _) _)), below_drewN HB5.out _⟩
          case measure => simp [intOf]; omega
        | false =>
          rw [hxk, if_neg (by simp)] at HOX
          have hne : ¬ xk = k := by rw [beq_eq_false_iff_ne] at hxk; exact hxk
          have hne3 : decide (xk = k) = false := decide_eq_false hne
          go_wp2_with fail
          go_quiet (fail)
          go_wp2_with (at_builtin; refine wpList_append_sl _ rfl (.tmp 29) (.tmp 31) elemCel rfl (HCm.out _ (k, v)) (HXm.out _ (k, v)) rfl rfl (one_cel (k, v)) HM1.out HM2.out (by simp; omega) ?_; intro A5 k5 c5 w5 hown5 hg5 hat5)
          obtain rfl := own_len hown5
          have HC5 : Hid (Co w5 (w.heap.size + 1 + 1 + 1) (.slice A5 ((outC cs (k, v) (findK cs k)).length + 1) c5) (outC cs (k, v) (findK cs k) ++ [(k, v)])) := by rw [Hid]; unfold Co; rw [List.length_append, List.length_singleton, ccs_append]; exact hown5
          have HB5 := Lib.hid (below_grown_own ((HBm.out _).alloc (by simp; omega) _) (HCm.out _ (k, v)) hg5 (by simp; omega))
          have hs5 := HB5.out.size
          clear hown5 hg5 hat5 p0 p1 p2 q0 q1 b0 b1
          have b0 := HB0.out.below HB5.out (by omega)
          have b1 := HB1.out.below HB5.out (by omega)
          have hq5 := HQ.out.trans (HB5.out.mono (by omega))
          have p0 : (w5).cell? ⟨w.heap.size, 0, none⟩ = some (.bool leaf) := b0.cell 0
          have p1 : (w5).cell? ⟨w.heap.size, 1, none⟩ = some (.int .i64 next) := b0.cell 1
          have p2 : (w5).cell? ⟨w.heap.size, 2, none⟩ = some (.slice (some ⟨b, o, none⟩) cs.length c) := b0.cell 2
          have q0 : (w5).cell? ⟨w.heap.size + 1, 0, none⟩ = some (.string (st k)) := b1.cell 0
          have q1 : (w5).cell? ⟨w.heap.size + 1, 1, none⟩ = some (.string (st v)) := b1.cell 1
          have c0 := (hq5.cell (p := ⟨b, o + findK cs k * 2, none⟩) hbs).trans hcc.1
          have c1 := (hq5.cell (p := ⟨b, o + findK cs k * 2 + 1, none⟩) hbs).trans hcc.2
          have HL : Hid ((outC cs (k, v) (findK cs k) ++ [(k, v)]).length = (outC cs (k, v) (findK cs k)).length + 1) := by rw [Hid, List.length_append]; rfl
          have HCn : Hid (∀ m (y : Cel), ((w5.drewN m).alloc (.cells #[.string (st y.1), .string (st y.2)] 47)).ownsRow (w.heap.size + 1 + 1 + 1) 47 2 (.slice A5 ((outC cs (k, v) (findK cs k)).length + 1) c5) ((outC cs (k, v) (findK cs k)).length + 1) (ccs (outC cs (k, v) (findK cs k) ++ [(k, v)]))) := fun m y => by
            have := HC5.out.later ((below_drewN (Below.refl _ _) m).alloc (Nat.le_refl _) (.cells #[.string (st y.1), .string (st y.2)] 47))
            unfold Co at this
            rwa [HL.out] at this
          have HBn : Hid (∀ m, Below (w.heap.size + 1 + 1 + 1) W (w5.drewN m)) := fun m => below_drewN HB5.out m
          rw [HL.out] at HM3 HM4
          go_wp2_with fail
          go_quiet (fail)
          go_wp2_with (at_builtin; refine wpList_append_sl _ rfl (.tmp 42) (.tmp 48) elemCel rfl (HCn.out _ (xk, xv)) (HXm.out _ (xk, xv)) rfl rfl (one_cel (xk, xv)) HM3.out HM4.out (by simp; omega) ?_; intro A6 k6 c6 w6 hown6 hg6 hat6)
          obtain rfl := own_len hown6
          have HC6 : Hid (Co w6 (w.heap.size + 1 + 1 + 1) (.slice A6 ((outC cs (k, v) (findK cs k)).length + 1 + 1) c6) (outC cs (k, v) (findK cs k + 1))) := by rw [Hid, HOX.out]; unfold Co; rw [List.length_append, HL.out, List.length_singleton, ccs_append]; exact hown6
          have HB6 := Lib.hid (below_grown_own ((HBn.out _).alloc (by simp; omega) _) (HCn.out _ (xk, xv)) hg6 (by simp; omega))
          clear hown6 hg6 hat6
          go_wp2_with fail
          go_roundw
          case rel => exact ⟨findK cs k + 1, by go_num, by omega, by rw [HD2.out], HC6, HB6⟩
          case measure => simp [intOf]; omega
      · have hne := at_ne HAS.out h hil
        have d1 : decide (findK cs k < i) = true := decide_eq_true h
        have HD2 := Lib.hid (decide_eq_true (p := findK cs k < i + 1) (by omega))
        have HOX := Lib.hid (outC_hi (c := (k, v)) h hil)
        rw [d1]
        clear d1 h hc HK
        generalize hx : cs[i] = x at *
        obtain ⟨xk, xv⟩ := x
        simp only at c0 c1 hne
        have hne2 : (xk == k) = false := by rw [beq_eq_false_iff_ne]; exact hne
        have hne3 : decide (xk = k) = false := decide_eq_false hne
        clear hx
        go_wp2_with fail
        go_quiet (fail)
        go_wp2_with fail
        go_quiet (fail)
        go_wp2_with (at_builtin; refine wpList_append_sl _ rfl (.tmp 42) (.tmp 48) elemCel rfl (HCm.out _ (xk, xv)) (HXm.out _ (xk, xv)) rfl rfl (one_cel (xk, xv)) HM1.out HM2.out (by simp; omega) ?_; intro A5 k5 c5 w5 hown5 hg5 hat5)
        obtain rfl := own_len hown5
        have HC5 : Hid (Co w5 (w.heap.size + 1 + 1 + 1) (.slice A5 ((outC cs (k, v) i).length + 1) c5) (outC cs (k, v) (i + 1))) := by rw [Hid, HOX.out]; unfold Co; rw [List.length_append, List.length_singleton, ccs_append]; exact hown5
        have HB5 := Lib.hid (below_grown_own ((HBm.out _).alloc (by simp; omega) _) (HCm.out _ (xk, xv)) hg5 (by simp; omega))
        clear hown5 hg5 hat5
        go_wp2_with fail
        go_roundw
        case rel => exact ⟨i + 1, by go_num, by omega, by rw [HD2.out], HC5, HB5⟩
        case measure => simp [intOf]; omega
    · obtain rfl : i = cs.length := by omega
      have HE : Hid ((if findK cs k < cs.length then outC cs (k, v) cs.length else outC cs (k, v) cs.length ++ [(k, v)]) = putC cs (k, v)) := outC_end (c := (k, v))
      have HM1 : Hid ((outC cs (k, v) cs.length).length + 1 ≤ maxLen) := by rw [Hid]; unfold maxLen; omega
      have HM2 : Hid (((outC cs (k, v) cs.length).length + 1) * 32 ≤ 140737488355328) := by rw [Hid]; omega
      go_upto_if 51 with (fail)
      go_cut [5, 6] (fun ov _ wx => Hid (Co wx (w.heap.size + 1 + 1 + 1) ov (putC cs (k, v))) ∧ Hid (Below (w.heap.size + 1 + 1 + 1) W wx))
      case first =>
        by_cases hK : findK cs k < cs.length
        · have HF : Hid (Co wr (w.heap.size + 1 + 1 + 1) (.slice Ao (outC cs (k, v) cs.length).length co) (putC cs (k, v))) := by
            have := HE.out
            rw [if_pos hK] at this
            rw [Hid, ← this]
            exact HC.out
          rw [decide_eq_true hK]
          clear hK
          go_wp2_with fail
          go_meet
          exact ⟨HF, HB⟩
        · have HCm : Hid (Co (wr.alloc (.cells #[.string (st k), .string (st v)] 47)) (w.heap.size + 1 + 1 + 1) (.slice Ao (outC cs (k, v) cs.length).length co) (outC cs (k, v) cs.length)) := HC.out.later ((Below.refl _ _).alloc (Nat.le_refl _) _)
          have HXm : Hid (Sl (fun b => b = wr.heap.size) (wr.alloc (.cells #[.string (st k), .string (st v)] 47)) 2 (.slice (some ⟨wr.heap.size, 0, none⟩) 1 1) 1 (ccs [(k, v)])) := Sl.celBlk (Blk.new _ _ _)
          have HEE : Hid (putC cs (k, v) = outC cs (k, v) cs.length ++ [(k, v)]) := by
            have := HE.out
            rw [if_neg hK] at this
            exact this.symm
          rw [decide_eq_false hK]
          clear hK
          go_wp2_with (at_builtin; refine wpList_append_sl _ rfl (.tmp 52) (.tmp 54) elemCel rfl HCm.out HXm.out rfl rfl (one_cel (k, v)) HM1.out HM2.out (by simp; omega) ?_; intro A5 k5 c5 w5 hown5 hg5 hat5)
          obtain rfl := own_len hown5
          have HC5 : Hid (Co w5 (w.heap.size + 1 + 1 + 1) (.slice A5 ((outC cs (k, v) cs.length).length + 1) c5) (putC cs (k, v))) := by rw [Hid, HEE.out]; unfold Co; rw [List.length_append, List.length_singleton, ccs_append]; exact hown5
          have HB5 := Lib.hid (below_grown_own (HB.out.alloc (by omega) _) HCm.out hg5 (by simp; omega))
          clear hown5 hg5 hat5
          go_wp2_with fail
          go_meet
          exact ⟨HC5, HB5⟩
      case rest =>
        clear p0 p1 p2 q0 q1 b0 b1 HC HB
        obtain ⟨HC, HB⟩ := hcut
        generalize wc = w5 at *
        have hcs := HC.out.cs
        obtain ⟨A5, c5, hv5, -⟩ := hcs.at
        subst hv5
        have hs5 := HB.out.size
        have b0 := HB0.out.below HB.out (by omega)
        have b2 := HB2.out.below HB.out (by omega)
        have hq5 := HQ.out.trans (HB.out.mono (by omega))
        have HP : Hid (∃ n, n = (putC cs (k, v)).length) := ⟨_, rfl⟩
        have hq6 := (below_put3 (hq5.setCell (p := ⟨w.heap.size, 2, none⟩) (Nat.le_refl _) (.slice A5 (putC cs (k, v)).length c5)) (show w.heap.size ≤ w.heap.size + 1 + 1 by omega) (.bool leaf) (.int .i64 next) (.slice A5 (putC cs (k, v)).length c5))
        have HBL := Lib.hid ((b2.far (p := ⟨w.heap.size, 2, none⟩) (show w.heap.size + 1 + 1 ≠ w.heap.size by omega) (.slice A5 (putC cs (k, v)).length c5)).put3 (.bool leaf) (.int .i64 next) (.slice A5 (putC cs (k, v)).length c5))
        have HQ6 := Lib.hid hq6
        have HPG : Hid (Cs (fun b => w.heap.size ≤ b ∧ b < w5.heap.size) ((((w5.setCell ⟨w.heap.size, 2, none⟩ (.slice A5 (putC cs (k, v)).length c5)).setCell ⟨w.heap.size + 1 + 1, 0, none⟩ (.bool leaf)).setCell ⟨w.heap.size + 1 + 1, 1, none⟩ (.int .i64 next)).setCell ⟨w.heap.size + 1 + 1, 2, none⟩ (.slice A5 (putC cs (k, v)).length c5)) (.slice A5 (putC cs (k, v)).length c5) (putC cs (k, v))) := by
          have hn : ∀ b, (w.heap.size + 1 + 1 + 1 ≤ b ∧ b < w5.heap.size) → w.heap.size < b ∧ w.heap.size + 1 + 1 < b := fun b hb => by omega
          refine Sl.more (Sl.setCell (Sl.setCell (Sl.setCell (Sl.setCell hcs (p := ⟨w.heap.size, 2, none⟩) (fun h => Nat.lt_irrefl _ (hn _ h).1) _) (p := ⟨w.heap.size + 1 + 1, 0, none⟩) (fun h => Nat.lt_irrefl _ (hn _ h).2) _) (p := ⟨w.heap.size + 1 + 1, 1, none⟩) (fun h => Nat.lt_irrefl _ (hn _ h).2) _) (p := ⟨w.heap.size + 1 + 1, 2, none⟩) (fun h => Nat.lt_irrefl _ (hn _ h).2) _) fun b hb => ?_
          have := hn b hb
          omega
        have p0 : (w5).cell? ⟨w.heap.size, 0, none⟩ = some (.bool leaf) := b0.cell 0
        have p1 : (w5).cell? ⟨w.heap.size, 1, none⟩ = some (.int .i64 next) := b0.cell 1
        have p2 : (w5).cell? ⟨w.heap.size, 2, none⟩ = some (.slice A cs.length c) := b0.cell 2
        have pf0 : (w5).frozen? ⟨w.heap.size, 0, none⟩ = false := b0.free 0
        have pf1 : (w5).frozen? ⟨w.heap.size, 1, none⟩ = false := b0.free 1
        have pf2 : (w5).frozen? ⟨w.heap.size, 2, none⟩ = false := b0.free 2
        have d0 : (w5).cell? ⟨w.heap.size + 1 + 1, 0, none⟩ = some (.bool false) := b2.cell 0
        have d1 : (w5).cell? ⟨w.heap.size + 1 + 1, 1, none⟩ = some (.int .i64 0) := b2.cell 1
        have d2 : (w5).cell? ⟨w.heap.size + 1 + 1, 2, none⟩ = some (.slice none 0 0) := b2.cell 2
        have df0 : (w5).frozen? ⟨w.heap.size + 1 + 1, 0, none⟩ = false := b2.free 0
        have df1 : (w5).frozen? ⟨w.heap.size + 1 + 1, 1, none⟩ = false := b2.free 1
        have df2 : (w5).frozen? ⟨w.heap.size + 1 + 1, 2, none⟩ = false := b2.free 2
        have hne1 : ¬ w.heap.size = w.heap.size + 1 + 1 := by omega
        have hne2 : ¬ w.heap.size + 1 + 1 = w.heap.size := by omega
        clear hcs hq5 hq6 b0 b2 HP
        go_wp2_with fail
        exact bodyPost_ret (results_cell1 rfl _ _ (w.heap.size + 1 + 1) rfl HBL.out pageTy) rfl ⟨_, rfl, ⟨A5, c5, rfl, Sl.more HPG.out fun b hb => ⟨hb.1, by simpa using hb.2⟩⟩, HQ6.out⟩
end Go.Proofs.YtlidbgidbpaenaaDoor
