/- PageHalves: the walk. -/
import Derived.Test.YtlidbgidbpaenaaDoorPagN
import Derived.Test.YtlidbgidbpaenaaDoorPagT
namespace Go.Proofs.YtlidbgidbpaenaaDoor
open Go Go.RowKit
set_option linter.unusedVariables false

/-- The last cell of the first half is ahead of the first one of the second. -/
theorem half_ends {cs : List Cel} {k : Nat} (hr : RisesP cs) (hk : HalfAt cs k) : ∃ (m m' : Nat) (x y : Cel), (cs.take k).length = m + 1 ∧ (cs.drop k).length = m' + 1 ∧ (cs.take k)[m]? = some x ∧ (cs.drop k)[0]? = some y ∧ Op.bytesLess x.1 y.1 = true := by
  have h1 := hk.lo
  have h2 := hk.hi
  obtain ⟨j, rfl⟩ : ∃ j, k = j + 1 := ⟨k - 1, by omega⟩
  refine ⟨j, cs.length - (j + 1) - 1, cs[j]'(by omega), cs[j + 1]'(by omega), by rw [List.length_take]; omega, by rw [List.length_drop]; omega, ?_, ?_, hr j (by omega)⟩
  · rw [List.getElem?_take_of_lt (by omega), List.getElem?_eq_getElem]
  · rw [List.getElem?_drop]; exact List.getElem?_eq_getElem (by omega)
theorem Cs.cell1 {S : Nat → Prop} {w : World} {A : Option Addr} {n c : Nat} {cs : List Cel} (h : Cs S w (.slice A n c) cs) {j : Nat} {x : Cel} (hj : cs[j]? = some x) : ∃ b o, A = some ⟨b, o, none⟩ ∧ S b ∧ w.cell? ⟨b, o + j * 2, none⟩ = some (.string (st x.1)) := by
  obtain ⟨A', c', hv, h3, h4, h5, h6⟩ := h.at
  injection hv with hA _ _
  obtain ⟨hl, hx⟩ := List.getElem?_eq_some_iff.1 hj
  obtain ⟨b, o, ha, hS, hc⟩ := h6 (by omega)
  refine ⟨b, o, hA.trans ha, hS, ?_⟩
  rw [← hx]
  exact (hc j hl).1

set_option maxHeartbeats 8000000 in
set_option maxRecDepth 100000 in
theorem law_PageHalves (l1 : Bool) (n1 : Int) (va : Value) (us : List Cel) (w : World) (hb : BitsOk w) (h1 : -9223372036854775808 ≤ n1 ∧ n1 ≤ 9223372036854775807) (ha : Cs (fun b => b < w.heap.size) w va us) :
    Calls Tryd.prog 7 #[.agg #[.bool l1, .int .i64 n1, va]] w fun e w' => e = .returned (.bool true) ∧ Below w.heap.size w w' := by
  have HA := Lib.hid ha
  obtain ⟨A, c, rfl, hlc, hcm, _⟩ := ha.at
  have q := (Below.refl w.heap.size w).alloc (Nat.le_refl _) (.cells #[.bool l1, .int .i64 n1, .slice A us.length c] 24)
  have b1 := Blk.new w 24 #[.bool l1, .int .i64 n1, .slice A us.length c]
  have HB := Lib.hid (hb.later q)
  have HA := Lib.hid (HA.out.up q)
  clear ha hb
  go_enter Tryd.func7, Tryd.ntmps7
  go_wp2_with fail
  generalize hW : w.alloc (.cells #[.bool l1, .int .i64 n1, .slice A us.length c] 24) = W at *
  clear hW
  have p0 : (W).cell? ⟨w.heap.size, 0, none⟩ = some (.bool l1) := b1.cell 0
  have p1 : (W).cell? ⟨w.heap.size, 1, none⟩ = some (.int .i64 n1) := b1.cell 1
  have p2 : (W).cell? ⟨w.heap.size, 2, none⟩ = some (.slice A us.length c) := b1.cell 2
  go_wp2_with fail
  by_cases hf : Few us
  · refine (few_any true _ l1 n1 _ us W HA.out ⟨fun _ => hf, fun _ => rfl⟩).mono ?_
    rintro e w3 ⟨rfl, hbl⟩
    have HM := Lib.hid (mid_of_few hf)
    have q := q.trans (hbl.mono q.size)
    have p0 := cell_later hbl p0
    have p1 := cell_later hbl p1
    have p2 := cell_later hbl p2
    have HB := Lib.hid (HB.out.later hbl)
    have HA := Lib.hid (HA.out.up hbl)
    have hl1 : us.length ≤ 100 := hf.1
    clear hf hbl
    go_wp2_with fail
    have hck := pcheck_any _ l1 n1 _ us w3 h1 HM.out HA.out
    by_cases hC : pgChk n1 us = 0
    · rw [hC] at hck
      refine hck.mono ?_
      rintro e w4 ⟨rfl, hbl⟩
      have q := q.trans (hbl.mono q.size)
      have p0 := cell_later hbl p0
      have p1 := cell_later hbl p1
      have p2 := cell_later hbl p2
      have HB := Lib.hid (HB.out.later hbl)
      have HA := Lib.hid (HA.out.up hbl)
      clear hbl hck
      by_cases h2 : us.length < 2
      · go_wp2_with fail
        refine (awake10_any w4 HB.out).mono ?_
        rintro e w5 ⟨rfl, hbl⟩
        go_wp2_with fail
        go_ret
        exact ⟨rfl, q.trans (hbl.mono q.size)⟩
      · have hC2 := Lib.hid hC
        clear hC
        go_wp2_with fail
        refine (psplit_any _ l1 n1 _ us w4 HM.out HA.out (by omega)).mono ?_
        rintro e w5 ⟨k, xa, xb, rfl, hh, ⟨Aa, ca, rfl, hca⟩, ⟨Ab, cb, rfl, hcb⟩, hbl⟩
        have q := q.trans (hbl.mono q.size)
        have HB := Lib.hid (HB.out.later hbl)
        obtain ⟨ma, mb, x, y, hma, hmb, hx, hy, hxy⟩ := half_ends (chk_rises none us (pgChk_cells hC2.out)) hh
        obtain ⟨ca0, cb0, sa0, sb0⟩ := halves hl1 hC2.out hh
        have mida : Mid (us.take k) := ⟨by rw [hma]; have := hh.hi; rw [List.length_take] at hma; omega, fun z hz => HM.out.2 z (List.mem_of_mem_take hz)⟩
        have midb : Mid (us.drop k) := ⟨by rw [hmb]; rw [List.length_drop] at hmb; omega, fun z hz => HM.out.2 z (List.mem_of_mem_drop hz)⟩
        have hml : ma + 1 ≤ 100 ∧ mb + 1 ≤ 100 := by rw [List.length_take] at hma; rw [List.length_drop] at hmb; omega
        rw [hma] at hca ⊢
        rw [hmb] at hcb ⊢
        clear HA HM hma hmb hh hbl p0 p1 p2 b1 hC2
        have hca2 := Lib.hid (Sl.more hca (fun b h => h.2))
        have hcb2 := Lib.hid (Sl.more hcb (fun b h => h.2))
        obtain ⟨ba, oa, rfl, hba, cx⟩ := hca.cell1 hx
        obtain ⟨bb, ob, rfl, hbb, cy⟩ := hcb.cell1 hy
        generalize us.take k = la at *
        generalize us.drop k = lb at *
        obtain ⟨Za, hZa⟩ : ∃ Z, pgSz n1 la = Z := ⟨_, rfl⟩
        obtain ⟨Zb, hZb⟩ : ∃ Z, pgSz n1 lb = Z := ⟨_, rfl⟩
        have HN := Lib.hid h1
        have HMA := Lib.hid mida
        have HMB := Lib.hid midb
        have e1 : Hid (pgChk n1 la = 0) := ca0
        have e2 : Hid (pgChk n1 lb = 0) := cb0
        have e3 := Lib.hid hZa
        have e4 := Lib.hid hZb
        rw [hZa] at sa0
        rw [hZb] at sb0
        clear ca0 cb0 hZa hZb mida midb h1 hx hy hca hcb
        have b5 : Blk ((w5.alloc (.cells #[.bool l1, .int .i64 n1, .slice (some ⟨ba, oa, none⟩) (ma + 1) ca] 24)).alloc (.cells #[.bool l1, .int .i64 n1, .slice (some ⟨bb, ob, none⟩) (mb + 1) cb] 24)) w5.heap.size 24 #[.bool l1, .int .i64 n1, .slice (some ⟨ba, oa, none⟩) (ma + 1) ca] := (Blk.new _ _ _).alloc _
        have b6 : Blk ((w5.alloc (.cells #[.bool l1, .int .i64 n1, .slice (some ⟨ba, oa, none⟩) (ma + 1) ca] 24)).alloc (.cells #[.bool l1, .int .i64 n1, .slice (some ⟨bb, ob, none⟩) (mb + 1) cb] 24)) (w5.heap.size + 1) 24 #[.bool l1, .int .i64 n1, .slice (some ⟨bb, ob, none⟩) (mb + 1) cb] := Blk.new1 _ _ _ _
        have q5 : Below w5.heap.size w5 ((w5.alloc (.cells #[.bool l1, .int .i64 n1, .slice (some ⟨ba, oa, none⟩) (ma + 1) ca] 24)).alloc (.cells #[.bool l1, .int .i64 n1, .slice (some ⟨bb, ob, none⟩) (mb + 1) cb] 24)) := ((Below.refl _ _).alloc (Nat.le_refl _) _).alloc (by simp) _
        have cx := cell_later q5 cx
        have cy := cell_later q5 cy
        have HA5 : Hid (Cs (fun b => b < _) _ _ la) := Cs.up hca2.out q5
        have HB5 : Hid (Cs (fun b => b < _) _ _ lb) := Cs.up hcb2.out q5
        have HB := Lib.hid (HB.out.later q5)
        have q := q.trans (q5.mono q.size)
        clear q5 hca2 hcb2
        have t9 : ((ma : Int) + 1 == 0) = false := by rw [beq_eq_false_iff_ne]; omega
        have t10 : ((mb : Int) + 1 == 0) = false := by rw [beq_eq_false_iff_ne]; omega
        go_wp2_with fail
        generalize hW : (w5.alloc (.cells #[.bool l1, .int .i64 n1, .slice (some ⟨ba, oa, none⟩) (ma + 1) ca] 24)).alloc (.cells #[.bool l1, .int .i64 n1, .slice (some ⟨bb, ob, none⟩) (mb + 1) cb] 24) = W5 at *
        clear hW
        have p0 : (W5).cell? ⟨w5.heap.size, 0, none⟩ = some (.bool l1) := b5.cell 0
        have p1 : (W5).cell? ⟨w5.heap.size, 1, none⟩ = some (.int .i64 n1) := b5.cell 1
        have p2 : (W5).cell? ⟨w5.heap.size, 2, none⟩ = some (.slice (some ⟨ba, oa, none⟩) (ma + 1) ca) := b5.cell 2
        have r0 : (W5).cell? ⟨w5.heap.size + 1, 0, none⟩ = some (.bool l1) := b6.cell 0
        have r1 : (W5).cell? ⟨w5.heap.size + 1, 1, none⟩ = some (.int .i64 n1) := b6.cell 1
        have r2 : (W5).cell? ⟨w5.heap.size + 1, 2, none⟩ = some (.slice (some ⟨bb, ob, none⟩) (mb + 1) cb) := b6.cell 2
        have t1 : IntKind.i64.wrap ((Za : Int) + 480) = (Za : Int) + 480 := IntWalk.i64_in _ (by omega)
        have t2 : IntKind.i64.wrap ((Za : Int) + 480 + 10) = (Za : Int) + 480 + 10 := IntWalk.i64_in _ (by omega)
        have t3 : (Za : Int) + 480 + 10 ≤ 2048 := by omega
        have t4 : IntKind.i64.wrap ((Zb : Int) + 480) = (Zb : Int) + 480 := IntWalk.i64_in _ (by omega)
        have t5 : IntKind.i64.wrap ((Zb : Int) + 480 + 10) = (Zb : Int) + 480 + 10 := IntWalk.i64_in _ (by omega)
        have t6 : (Zb : Int) + 480 + 10 ≤ 2048 := by omega
        have t7 : IntKind.i64.wrap (ma : Int) = (ma : Int) := IntWalk.i64_in _ (by omega)
        have t8 : (0 : Int) ≤ (ma : Int) := by omega
        have t11 : (ma : Int) < (ma : Int) + 1 := by omega
        have t12 : (0 : Int) < (mb : Int) + 1 := by omega
        have K1 : Hid (∀ wg, Below W5.heap.size W5 wg → Calls Tryd.prog 14 #[.agg #[.bool l1, .int .i64 n1, .slice (some ⟨ba, oa, none⟩) (ma + 1) ca]] wg fun e w' => e = .returned (.int .i64 0) ∧ Below wg.heap.size wg w') := fun wg hwg => by
          have := pcheck_any _ l1 n1 _ la wg HN.out HMA.out (HA5.out.up hwg)
          rw [e1.out] at this
          exact this
        have K2 : Hid (∀ wg, Below W5.heap.size W5 wg → Calls Tryd.prog 14 #[.agg #[.bool l1, .int .i64 n1, .slice (some ⟨bb, ob, none⟩) (mb + 1) cb]] wg fun e w' => e = .returned (.int .i64 0) ∧ Below wg.heap.size wg w') := fun wg hwg => by
          have := pcheck_any _ l1 n1 _ lb wg HN.out HMB.out (HB5.out.up hwg)
          rw [e2.out] at this
          exact this
        have K3 : Hid (∀ wg, Below W5.heap.size W5 wg → Calls Tryd.prog 15 #[.agg #[.bool l1, .int .i64 n1, .slice (some ⟨ba, oa, none⟩) (ma + 1) ca]] wg fun e w' => e = .returned (.int .i64 (Za : Int)) ∧ Below wg.heap.size wg w') := fun wg hwg => by
          have := psize_any _ l1 n1 _ la wg HN.out HMA.out (HA5.out.up hwg)
          rw [e3.out] at this
          exact this
        have K4 : Hid (∀ wg, Below W5.heap.size W5 wg → Calls Tryd.prog 15 #[.agg #[.bool l1, .int .i64 n1, .slice (some ⟨bb, ob, none⟩) (mb + 1) cb]] wg fun e w' => e = .returned (.int .i64 (Zb : Int)) ∧ Below wg.heap.size wg w') := fun wg hwg => by
          have := psize_any _ l1 n1 _ lb wg HN.out HMB.out (HB5.out.up hwg)
          rw [e4.out] at this
          exact this
        clear b5 b6
        obtain ⟨x, x'⟩ := x
        obtain ⟨y, y'⟩ := y
        simp only at cx cy hxy
        simp only [Nat.zero_mul, Nat.add_zero] at cy
        refine wp_region_grow_lit (by kernel_rfl) (by kernel_rfl) ?_
        apply Exists.intro
        apply And.intro
        · repeat (first
            | (apply wpGrow_skip rfl
               intro K hK
               go_simp
               refine hK _ ?_
               clear hK K)
            | (apply wpGrow_is rfl
               · intro wg hwg _
                 have p0 := cell_later hwg p0
                 have p1 := cell_later hwg p1
                 have p2 := cell_later hwg p2
                 have r0 := cell_later hwg r0
                 have r1 := cell_later hwg r1
                 have r2 := cell_later hwg r2
                 have cx := cell_later hwg cx
                 have cy := cell_later hwg cy
                 unfold grows
                 go_simp
                 first
                   | exact grows_value _ _
                   | (apply grows_call; go_at_call 11; exact awake10_any wg (HB.out.later hwg))
                   | (apply grows_call; go_at_call_of 14 ca; exact K1.out wg hwg)
                   | (apply grows_call; go_at_call_of 14 cb; exact K2.out wg hwg)
                   | (apply grows_call; go_at_call_of 15 ca; exact K3.out wg hwg)
                   | (apply grows_call; go_at_call_of 15 cb; exact K4.out wg hwg)
               intro K hK
               go_simp
               refine hK _ ?_
               clear hK K))
          refine wpGrow_end (fun w7 hbl _ => ?_)
          go_wp2_with fail
          go_ret
          exact ⟨by simp, q.trans (hbl.mono q.size)⟩
        · apply And.intro
          · repeat (first | exact trivial | (refine ⟨Stays.is _, ?_⟩) | (refine ⟨Stays.bs _, ?_⟩) | (refine ⟨Stays.pg _ _ _, ?_⟩))
          · rfl
    · generalize pgChk n1 us = C at *
      have hC0 : ((C : Int) != 0) = true := by rw [bne_iff_ne]; omega
      refine hck.mono ?_
      rintro e w4 ⟨rfl, hbl⟩
      have q := q.trans (hbl.mono q.size)
      have HB := Lib.hid (HB.out.later hbl)
      clear hbl hck hC
      go_wp2_with fail
      refine (awake10_any w4 HB.out).mono ?_
      rintro e w5 ⟨rfl, hbl⟩
      go_wp2_with fail
      go_ret
      exact ⟨rfl, q.trans (hbl.mono q.size)⟩
  · refine (few_any false _ l1 n1 _ us W HA.out ⟨(fun h => by cases h), fun h => absurd h hf⟩).mono ?_
    rintro e w4 ⟨rfl, hbl⟩
    have q := q.trans (hbl.mono q.size)
    have HB := Lib.hid (HB.out.later hbl)
    clear hbl
    go_wp2_with fail
    refine (awake10_any w4 HB.out).mono ?_
    rintro e w5 ⟨rfl, hbl⟩
    go_wp2_with fail
    go_ret
    exact ⟨rfl, q.trans (hbl.mono q.size)⟩
end Go.Proofs.YtlidbgidbpaenaaDoor
