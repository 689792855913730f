/- PageSplits: the walk. -/
import Derived.Test.YtlidbgidbpaenaaDoorPagN
import Derived.Test.YtlidbgidbpaenaaDoorPagV
import Derived.Test.YtlidbgidbpaenaaDoorPagY
import Derived.RegionTactic
namespace Go.Proofs.YtlidbgidbpaenaaDoor
open Go Go.RowKit
set_option linter.unusedVariables false

set_option maxHeartbeats 8000000 in
set_option maxRecDepth 100000 in
theorem law_PageSplits (l1 : Bool) (n1 : Int) (va : Value) (us : List Cel) (w : World) (hb : BitsOk w) (h1 : -9223372036854775808 ≤ n1 ∧ n1 ≤ 9223372036854775807) (ha : Cs (fun b => b < w.heap.size) w va us) :
    Calls Tryd.prog 6 #[.agg #[.bool l1, .int .i64 n1, va]] w fun e w' => e = .returned (.bool true) ∧ Below w.heap.size w w' := by
  have HA := Lib.hid ha
  obtain ⟨A, c, rfl, hlc, hcm, _⟩ := ha.at
  have q := (Below.refl w.heap.size w).alloc (Nat.le_refl _) (.cells #[.bool l1, .int .i64 n1, .slice A us.length c] 24)
  have b1 := Blk.new w 24 #[.bool l1, .int .i64 n1, .slice A us.length c]
  have HB := Lib.hid (hb.later q)
  have HA := Lib.hid (HA.out.up q)
  clear ha hb
  go_enter Tryd.func6, Tryd.ntmps6
  go_wp2_with fail
  generalize hW : w.alloc (.cells #[.bool l1, .int .i64 n1, .slice A us.length c] 24) = W at *
  clear hW
  have p0 : (W).cell? ⟨w.heap.size, 0, none⟩ = some (.bool l1) := b1.cell 0
  have p1 : (W).cell? ⟨w.heap.size, 1, none⟩ = some (.int .i64 n1) := b1.cell 1
  have p2 : (W).cell? ⟨w.heap.size, 2, none⟩ = some (.slice A us.length c) := b1.cell 2
  go_wp2_with fail
  by_cases hf : Few us
  · refine (few_any true _ l1 n1 _ us W HA.out ⟨fun _ => hf, fun _ => rfl⟩).mono ?_
    rintro e w3 ⟨rfl, hbl⟩
    have HM := Lib.hid (mid_of_few hf)
    have q := q.trans (hbl.mono q.size)
    have p0 := cell_later hbl p0
    have p1 := cell_later hbl p1
    have p2 := cell_later hbl p2
    have HB := Lib.hid (HB.out.later hbl)
    have HA := Lib.hid (HA.out.up hbl)
    have hl1 : us.length ≤ 100 := hf.1
    clear hf hbl
    go_wp2_with fail
    by_cases h2 : us.length < 2
    · have hz : ∀ (w : World), Cs (fun b => b < w.heap.size) w (.slice none 0 0) [] := fun _ => Sl.nil
      have HZ := Lib.hid hz
      refine (psplit_short _ l1 n1 _ us w3 HA.out h2).mono ?_
      rintro e w4 ⟨rfl, hbl⟩
      have q := q.trans (hbl.mono q.size)
      have p0 := cell_later hbl p0
      have p1 := cell_later hbl p1
      have p2 := cell_later hbl p2
      have HB := Lib.hid (HB.out.later hbl)
      have b5 : Blk ((w4.alloc (.cells #[.bool false, .int .i64 0, .slice none 0 0] 24)).alloc (.cells #[.bool false, .int .i64 0, .slice none 0 0] 24)) w4.heap.size 24 #[.bool false, .int .i64 0, .slice none 0 0] := (Blk.new _ _ _).alloc _
      have b6 : Blk ((w4.alloc (.cells #[.bool false, .int .i64 0, .slice none 0 0] 24)).alloc (.cells #[.bool false, .int .i64 0, .slice none 0 0] 24)) (w4.heap.size + 1) 24 #[.bool false, .int .i64 0, .slice none 0 0] := Blk.new1 _ _ _ _
      have q5 : Below w4.heap.size w4 ((w4.alloc (.cells #[.bool false, .int .i64 0, .slice none 0 0] 24)).alloc (.cells #[.bool false, .int .i64 0, .slice none 0 0] 24)) := ((Below.refl _ _).alloc (Nat.le_refl _) _).alloc (by simp) _
      have q := q.trans (q5.mono q.size)
      have p0 := cell_later q5 p0
      have p1 := cell_later q5 p1
      have p2 := cell_later q5 p2
      have HB := Lib.hid (HB.out.later q5)
      clear hbl hz q5
      go_wp2_with fail
      generalize hW : (w4.alloc (.cells #[.bool false, .int .i64 0, .slice none 0 0] 24)).alloc (.cells #[.bool false, .int .i64 0, .slice none 0 0] 24) = W5 at *
      clear hW
      refine (awake10_any _ HB.out).mono ?_
      rintro e w6 ⟨rfl, hbl⟩
      have q := q.trans (hbl.mono q.size)
      have b5 := b5.later hbl
      have b6 := b6.later hbl
      have r0 : (w6).cell? ⟨w4.heap.size, 0, none⟩ = some (.bool false) := b5.cell 0
      have r1 : (w6).cell? ⟨w4.heap.size, 1, none⟩ = some (.int .i64 0) := b5.cell 1
      have r2 : (w6).cell? ⟨w4.heap.size, 2, none⟩ = some (.slice none 0 0) := b5.cell 2
      have s0 : (w6).cell? ⟨w4.heap.size + 1, 0, none⟩ = some (.bool false) := b6.cell 0
      have s1 : (w6).cell? ⟨w4.heap.size + 1, 1, none⟩ = some (.int .i64 0) := b6.cell 1
      have s2 : (w6).cell? ⟨w4.heap.size + 1, 2, none⟩ = some (.slice none 0 0) := b6.cell 2
      clear hbl
      go_wp2_with fail
      refine (refPSame_at true _ _ false false 0 0 _ _ [] [] _ (HZ.out _) (HZ.out _) (by simp)).mono ?_
      rintro e w7 ⟨rfl, hbl⟩
      have q := q.trans (hbl.mono q.size)
      have s0 := cell_later hbl s0
      have s1 := cell_later hbl s1
      have s2 := cell_later hbl s2
      clear hbl
      go_wp2_with fail
      refine (refPSame_at true _ _ false false 0 0 _ _ [] [] _ (HZ.out _) (HZ.out _) (by simp)).mono ?_
      rintro e w8 ⟨rfl, hbl⟩
      go_wp2_with fail
      go_ret
      exact ⟨rfl, q.trans (hbl.mono q.size)⟩
    · refine (psplit_any _ l1 n1 _ us w3 HM.out HA.out (by omega)).mono ?_
      rintro e w5 ⟨k, xa, xb, rfl, hh, ⟨Aa, ca, rfl, hca⟩, ⟨Ab, cb, rfl, hcb⟩, hbl⟩
      have q := q.trans (hbl.mono q.size)
      have hklo := hh.lo
      have hkhi := hh.hi
      have HB := Lib.hid (HB.out.later hbl)
      have HA := Lib.hid (HA.out.up hbl)
      have p0 := cell_later hbl p0
      have p1 := cell_later hbl p1
      have p2 := cell_later hbl p2
      have HHH := Lib.hid hh
      obtain ⟨Na, hNa⟩ : ∃ N, (us.take k).length = N := ⟨_, rfl⟩
      obtain ⟨Nb, hNb⟩ : ∃ N, (us.drop k).length = N := ⟨_, rfl⟩
      have hca2 : Hid (Cs (fun b => b < w5.heap.size) w5 (.slice Aa Na ca) (us.take k)) := by rw [Hid, ← hNa]; exact Sl.more hca (fun b h => h.2)
      have hcb2 : Hid (Cs (fun b => b < w5.heap.size) w5 (.slice Ab Nb cb) (us.drop k)) := by rw [Hid, ← hNb]; exact Sl.more hcb (fun b h => h.2)
      rw [hNa, hNb]
      have b5 : Blk ((w5.alloc (.cells #[.bool l1, .int .i64 n1, .slice Aa Na ca] 24)).alloc (.cells #[.bool l1, .int .i64 n1, .slice Ab Nb cb] 24)) w5.heap.size 24 #[.bool l1, .int .i64 n1, .slice Aa Na ca] := (Blk.new _ _ _).alloc _
      have b6 : Blk ((w5.alloc (.cells #[.bool l1, .int .i64 n1, .slice Aa Na ca] 24)).alloc (.cells #[.bool l1, .int .i64 n1, .slice Ab Nb cb] 24)) (w5.heap.size + 1) 24 #[.bool l1, .int .i64 n1, .slice Ab Nb cb] := Blk.new1 _ _ _ _
      have q5 : Below w5.heap.size w5 ((w5.alloc (.cells #[.bool l1, .int .i64 n1, .slice Aa Na ca] 24)).alloc (.cells #[.bool l1, .int .i64 n1, .slice Ab Nb cb] 24)) := ((Below.refl _ _).alloc (Nat.le_refl _) _).alloc (by simp) _
      have q := q.trans (q5.mono q.size)
      have p0 := cell_later q5 p0
      have p1 := cell_later q5 p1
      have p2 := cell_later q5 p2
      have HB := Lib.hid (HB.out.later q5)
      have HA := Lib.hid (HA.out.up q5)
      have hca2 := Lib.hid (hca2.out.up q5)
      have hcb2 := Lib.hid (hcb2.out.up q5)
      have hge : ¬ us.length < 2 := h2
      clear hbl q5 hca hcb hNa hNb hh b1
      go_wp2_with fail
      generalize hW : (w5.alloc (.cells #[.bool l1, .int .i64 n1, .slice Aa Na ca] 24)).alloc (.cells #[.bool l1, .int .i64 n1, .slice Ab Nb cb] 24) = W5 at *
      clear hW
      refine (refHalf_any _ l1 n1 _ us W5 HM.out HA.out (by omega)).mono ?_
      rintro e w6 ⟨k', rfl, hh', hbl⟩
      obtain rfl := HHH.out.only hh'
      have q := q.trans (hbl.mono q.size)
      have b5 := b5.later hbl
      have b6 := b6.later hbl
      have p0 := cell_later hbl p0
      have p1 := cell_later hbl p1
      have p2 := cell_later hbl p2
      have HB := Lib.hid (HB.out.later hbl)
      have HA := Lib.hid (HA.out.up hbl)
      have hca2 := Lib.hid (hca2.out.up hbl)
      have hcb2 := Lib.hid (hcb2.out.up hbl)
      have t1 : (0 : Int) ≤ (k : Int) := by omega
      have t2 : (k : Int) ≤ (us.length : Int) := by omega
      have t3 : (k : Int) ≤ (c : Int) := by omega
      have t4 : (us.length : Int) ≤ (c : Int) := by omega
      obtain ⟨x0, hx0⟩ : ∃ x, us[0]? = some x := ⟨us[0]'(by omega), List.getElem?_eq_getElem (by omega)⟩
      obtain ⟨b, o, rfl, _, _⟩ := Cs.cell1 HA.out hx0
      have HP := Lib.hid (Cs.pre HA.out (show k ≤ us.length by omega))
      have hcut := Cs.cut HA.out (show k ≤ us.length by omega)
      rw [if_neg (by omega)] at hcut
      have HD := Lib.hid hcut
      have hne : ¬ c = k := by omega
      clear hbl hh' hx0 hcut
      have hlt0 : w.heap.size < w6.heap.size := World.block_lt_of_cell? w6 _ p0
      have hlt1 : w.heap.size < w6.heap.size + 1 := by omega
      have n1' : ¬ w.heap.size = w6.heap.size := by omega
      have n2' : ¬ w.heap.size = w6.heap.size + 1 := by omega
      have n3' : ¬ w6.heap.size = w6.heap.size + 1 := by omega
      have n4' : ¬ w6.heap.size + 1 = w6.heap.size := by omega
      have b7 : Blk ((w6.alloc (.cells #[.bool l1, .int .i64 n1, .slice (some ⟨b, o, none⟩) us.length c] 24)).alloc (.cells #[.bool l1, .int .i64 n1, .slice (some ⟨b, o, none⟩) us.length c] 24)).drew w6.heap.size 24 #[.bool l1, .int .i64 n1, .slice (some ⟨b, o, none⟩) us.length c] := ((Blk.new _ _ _).alloc _).drew
      have b8 : Blk ((w6.alloc (.cells #[.bool l1, .int .i64 n1, .slice (some ⟨b, o, none⟩) us.length c] 24)).alloc (.cells #[.bool l1, .int .i64 n1, .slice (some ⟨b, o, none⟩) us.length c] 24)).drew (w6.heap.size + 1) 24 #[.bool l1, .int .i64 n1, .slice (some ⟨b, o, none⟩) us.length c] := (Blk.new1 _ _ _ _).drew
      have q7 : Below w6.heap.size w6 ((w6.alloc (.cells #[.bool l1, .int .i64 n1, .slice (some ⟨b, o, none⟩) us.length c] 24)).alloc (.cells #[.bool l1, .int .i64 n1, .slice (some ⟨b, o, none⟩) us.length c] 24)).drew := (((Below.refl _ _).alloc (Nat.le_refl _) _).alloc (by simp) _).drew
      go_wp2_with fail
      go_region
      · generalize hW7 : ((w6.alloc (.cells #[.bool l1, .int .i64 n1, .slice (some ⟨b, o, none⟩) us.length c] 24)).alloc (.cells #[.bool l1, .int .i64 n1, .slice (some ⟨b, o, none⟩) us.length c] 24)).drew = W7 at *
        clear hW7
        have P0 := Lib.hid p0
        have P1 := Lib.hid p1
        have P2 := Lib.hid p2
        have p0 := cell_later q7 p0
        have p1 := cell_later q7 p1
        have p2 := cell_later q7 p2
        have u2 : W7.cell? ⟨w6.heap.size, 2, none⟩ = some (.slice (some ⟨b, o, none⟩) us.length c) := b7.cell 2
        have v2 : W7.cell? ⟨w6.heap.size + 1, 2, none⟩ = some (.slice (some ⟨b, o, none⟩) us.length c) := b8.cell 2
        have uf := b7.free 2
        have vf := b8.free 2
        go_wp2_with fail
        go_region
        · have bx : Blk (((W7.setCell ⟨w6.heap.size, 2, none⟩ (.slice (some ⟨b, o, none⟩) k c)).setCell ⟨w6.heap.size + 1, 2, none⟩ (.slice (some ⟨b, o + k * 2, none⟩) (us.length - k) (c - k))).drew) (w6.heap.size) 24 #[.bool l1, .int .i64 n1, .slice (some ⟨b, o, none⟩) k c] := ((b7.put 2 _).far (p := ⟨w6.heap.size + 1, 2, none⟩) n3' _).drew
          have by' : Blk (((W7.setCell ⟨w6.heap.size, 2, none⟩ (.slice (some ⟨b, o, none⟩) k c)).setCell ⟨w6.heap.size + 1, 2, none⟩ (.slice (some ⟨b, o + k * 2, none⟩) (us.length - k) (c - k))).drew) (w6.heap.size + 1) 24 #[.bool l1, .int .i64 n1, .slice (some ⟨b, o + k * 2, none⟩) (us.length - k) (c - k)] := ((b8.far (p := ⟨w6.heap.size, 2, none⟩) n4' _).put 2 _).drew
          have q8 : Below w6.heap.size w6 (((W7.setCell ⟨w6.heap.size, 2, none⟩ (.slice (some ⟨b, o, none⟩) k c)).setCell ⟨w6.heap.size + 1, 2, none⟩ (.slice (some ⟨b, o + k * 2, none⟩) (us.length - k) (c - k))).drew) := ((q7.setCell (p := ⟨w6.heap.size, 2, none⟩) (by simp) _).setCell (p := ⟨w6.heap.size + 1, 2, none⟩) (by simp) _).drew
          generalize hWf : ((W7.setCell ⟨w6.heap.size, 2, none⟩ (.slice (some ⟨b, o, none⟩) k c)).setCell ⟨w6.heap.size + 1, 2, none⟩ (.slice (some ⟨b, o + k * 2, none⟩) (us.length - k) (c - k))).drew = Wf at *
          clear hWf b7 b8 p0 p1 p2
          have b5 := b5.later q8
          have b6 := b6.later q8
          have p0 := cell_later q8 P0.out
          have p1 := cell_later q8 P1.out
          have p2 := cell_later q8 P2.out
          have HB := Lib.hid (HB.out.later q8)
          have HA := Lib.hid (Cs.up HA.out q8)
          have hca2 := Lib.hid (Cs.up hca2.out q8)
          have hcb2 := Lib.hid (Cs.up hcb2.out q8)
          have HP := Lib.hid (Cs.up HP.out q8)
          have HD := Lib.hid (Cs.up HD.out q8)
          have q := q.trans (q8.mono q.size)
          have a0 : (Wf).cell? ⟨w5.heap.size, 0, none⟩ = some (.bool l1) := b5.cell 0
          have a1 : (Wf).cell? ⟨w5.heap.size, 1, none⟩ = some (.int .i64 n1) := b5.cell 1
          have a2 : (Wf).cell? ⟨w5.heap.size, 2, none⟩ = some (.slice Aa Na ca) := b5.cell 2
          have d0 : (Wf).cell? ⟨w5.heap.size + 1, 0, none⟩ = some (.bool l1) := b6.cell 0
          have d1 : (Wf).cell? ⟨w5.heap.size + 1, 1, none⟩ = some (.int .i64 n1) := b6.cell 1
          have d2 : (Wf).cell? ⟨w5.heap.size + 1, 2, none⟩ = some (.slice Ab Nb cb) := b6.cell 2
          have x0 : (Wf).cell? ⟨w6.heap.size, 0, none⟩ = some (.bool l1) := bx.cell 0
          have x1 : (Wf).cell? ⟨w6.heap.size, 1, none⟩ = some (.int .i64 n1) := bx.cell 1
          have x2 : (Wf).cell? ⟨w6.heap.size, 2, none⟩ = some (.slice (some ⟨b, o, none⟩) k c) := bx.cell 2
          have y0 : (Wf).cell? ⟨w6.heap.size + 1, 0, none⟩ = some (.bool l1) := by'.cell 0
          have y1 : (Wf).cell? ⟨w6.heap.size + 1, 1, none⟩ = some (.int .i64 n1) := by'.cell 1
          have y2 : (Wf).cell? ⟨w6.heap.size + 1, 2, none⟩ = some (.slice (some ⟨b, o + k * 2, none⟩) (us.length - k) (c - k)) := by'.cell 2
          clear b5 b6 bx by' q8 q7
          go_wp2_with fail
          refine wp_region_grow_lit (by kernel_rfl) (by kernel_rfl) ?_
          apply Exists.intro
          apply And.intro
          · repeat (first
              | (apply wpGrow_skip rfl
                 intro K hK
                 go_simp
                 refine hK _ ?_
                 clear hK K)
              | (apply wpGrow_is rfl
                 · intro wg hwg _
                   have p0 := cell_later hwg p0
                   have p1 := cell_later hwg p1
                   have p2 := cell_later hwg p2
                   have a0 := cell_later hwg a0
                   have a1 := cell_later hwg a1
                   have a2 := cell_later hwg a2
                   have d0 := cell_later hwg d0
                   have d1 := cell_later hwg d1
                   have d2 := cell_later hwg d2
                   have x0 := cell_later hwg x0
                   have x1 := cell_later hwg x1
                   have x2 := cell_later hwg x2
                   have y0 := cell_later hwg y0
                   have y1 := cell_later hwg y1
                   have y2 := cell_later hwg y2
                   unfold grows
                   go_simp
                   first
                     | exact grows_value _ _
                     | (apply grows_call; go_at_call 11; exact awake10_any wg (HB.out.later hwg))
                     | (apply grows_call; go_at_call_of 20 ca; exact refPSame_at true _ _ l1 l1 n1 n1 _ _ (us.take k) (us.take k) wg (Cs.up hca2.out hwg) (Cs.up HP.out hwg) (by simp))
                     | (apply grows_call; go_at_call_of 20 cb; exact refPSame_at true _ _ l1 l1 n1 n1 _ _ (us.drop k) (us.drop k) wg (Cs.up hcb2.out hwg) (Cs.up HD.out hwg) (by simp))
                 intro K hK
                 go_simp
                 refine hK _ ?_
                 clear hK K))
            apply wpGrow_rel (V := VPg l1 n1 us) rfl
            · intro wg hwg hf
              unfold grows
              go_simp
              refine ⟨Below.refl _ _, ?_⟩
              go_at_call 26
              exact (pjoin_any _ _ l1 l1 n1 n1 _ _ (us.take k) (us.drop k) wg (by rw [List.length_take]; omega) (by rw [List.length_drop]; omega) (Cs.up hca2.out hwg) (Cs.up hcb2.out hwg)).mono fun e w' ⟨v, he, hp, hbb⟩ => ⟨v, he, hbb, by have := hp.lower (Nat.zero_le _); rw [List.take_append_drop] at this; exact this⟩
            intro xv hxv K hK
            obtain ⟨wx, _, hbx⟩ := hxv
            have hbo := hbx
            obtain ⟨A18, c18, rfl, _⟩ := hbo
            go_simp
            refine hK _ ?_
            clear hK K hbx
            repeat (first
              | (apply wpGrow_skip rfl
                 intro K hK
                 go_simp
                 refine hK _ ?_
                 clear hK K)
              | (apply wpGrow_is rfl
                 · intro wg hwg _
                   have p0 := cell_later hwg p0
                   have p1 := cell_later hwg p1
                   have p2 := cell_later hwg p2
                   unfold grows
                   go_simp
                   first
                     | exact grows_value _ _
                     | (fail)
                 intro K hK
                 go_simp
                 refine hK _ ?_
                 clear hK K))
            apply wpGrow_is rfl
            · intro wg hwg hf
              have hb6 : VPg l1 n1 us (.agg #[.bool l1, .int .i64 n1, .slice A18 us.length c18]) wg := hf ⟨18, .data⟩ (by simp) rfl _ _ (by kernel_rfl)
              obtain ⟨A6, c6, he6, hc6⟩ := hb6
              cases he6
              clear hf
              unfold grows
              go_simp
              apply grows_call
              go_at_call 20
              exact refPSame_at true _ _ l1 l1 n1 n1 _ _ us us wg hc6 (Cs.up HA.out hwg) (by simp)
            intro K hK
            go_simp
            refine hK _ ?_
            clear hK K
            repeat (first
              | (apply wpGrow_skip rfl
                 intro K hK
                 go_simp
                 refine hK _ ?_
                 clear hK K)
              | (apply wpGrow_is rfl
                 · intro wg hwg _
                   skip
                   unfold grows
                   go_simp
                   first
                     | exact grows_value _ _
                     | (fail)
                 intro K hK
                 go_simp
                 refine hK _ ?_
                 clear hK K))
            refine wpGrow_end (fun wg hwg _ => ?_)
            go_wp2_with fail
            go_ret
            exact ⟨by simp, q.trans (hwg.mono q.size)⟩
          · apply And.intro
            · repeat (first | exact trivial | (refine ⟨Stays.is _, ?_⟩) | (refine ⟨Stays.bs _, ?_⟩) | (refine ⟨Stays.pg _ _ _, ?_⟩))
            · rfl
      · generalize hW7 : ((w6.alloc (.cells #[.bool l1, .int .i64 n1, .slice (some ⟨b, o, none⟩) us.length c] 24)).alloc (.cells #[.bool l1, .int .i64 n1, .slice (some ⟨b, o, none⟩) us.length c] 24)).drew = W7 at *
        clear hW7
        have P0 := Lib.hid p0
        have P1 := Lib.hid p1
        have P2 := Lib.hid p2
        have p0 := cell_later q7 p0
        have p1 := cell_later q7 p1
        have p2 := cell_later q7 p2
        have u2 : W7.cell? ⟨w6.heap.size, 2, none⟩ = some (.slice (some ⟨b, o, none⟩) us.length c) := b7.cell 2
        have v2 : W7.cell? ⟨w6.heap.size + 1, 2, none⟩ = some (.slice (some ⟨b, o, none⟩) us.length c) := b8.cell 2
        have uf := b7.free 2
        have vf := b8.free 2
        go_wp2_with fail
        go_region
        · have bx : Blk (((W7.setCell ⟨w6.heap.size + 1, 2, none⟩ (.slice (some ⟨b, o, none⟩) k c)).setCell ⟨w6.heap.size, 2, none⟩ (.slice (some ⟨b, o + k * 2, none⟩) (us.length - k) (c - k))).drew) (w6.heap.size + 1) 24 #[.bool l1, .int .i64 n1, .slice (some ⟨b, o, none⟩) k c] := ((b8.put 2 _).far (p := ⟨w6.heap.size, 2, none⟩) n4' _).drew
          have by' : Blk (((W7.setCell ⟨w6.heap.size + 1, 2, none⟩ (.slice (some ⟨b, o, none⟩) k c)).setCell ⟨w6.heap.size, 2, none⟩ (.slice (some ⟨b, o + k * 2, none⟩) (us.length - k) (c - k))).drew) (w6.heap.size) 24 #[.bool l1, .int .i64 n1, .slice (some ⟨b, o + k * 2, none⟩) (us.length - k) (c - k)] := ((b7.far (p := ⟨w6.heap.size + 1, 2, none⟩) n3' _).put 2 _).drew
          have q8 : Below w6.heap.size w6 (((W7.setCell ⟨w6.heap.size + 1, 2, none⟩ (.slice (some ⟨b, o, none⟩) k c)).setCell ⟨w6.heap.size, 2, none⟩ (.slice (some ⟨b, o + k * 2, none⟩) (us.length - k) (c - k))).drew) := ((q7.setCell (p := ⟨w6.heap.size + 1, 2, none⟩) (by simp) _).setCell (p := ⟨w6.heap.size, 2, none⟩) (by simp) _).drew
          generalize hWf : ((W7.setCell ⟨w6.heap.size + 1, 2, none⟩ (.slice (some ⟨b, o, none⟩) k c)).setCell ⟨w6.heap.size, 2, none⟩ (.slice (some ⟨b, o + k * 2, none⟩) (us.length - k) (c - k))).drew = Wf at *
          clear hWf b7 b8 p0 p1 p2
          have b5 := b5.later q8
          have b6 := b6.later q8
          have p0 := cell_later q8 P0.out
          have p1 := cell_later q8 P1.out
          have p2 := cell_later q8 P2.out
          have HB := Lib.hid (HB.out.later q8)
          have HA := Lib.hid (Cs.up HA.out q8)
          have hca2 := Lib.hid (Cs.up hca2.out q8)
          have hcb2 := Lib.hid (Cs.up hcb2.out q8)
          have HP := Lib.hid (Cs.up HP.out q8)
          have HD := Lib.hid (Cs.up HD.out q8)
          have q := q.trans (q8.mono q.size)
          have a0 : (Wf).cell? ⟨w5.heap.size, 0, none⟩ = some (.bool l1) := b5.cell 0
          have a1 : (Wf).cell? ⟨w5.heap.size, 1, none⟩ = some (.int .i64 n1) := b5.cell 1
          have a2 : (Wf).cell? ⟨w5.heap.size, 2, none⟩ = some (.slice Aa Na ca) := b5.cell 2
          have d0 : (Wf).cell? ⟨w5.heap.size + 1, 0, none⟩ = some (.bool l1) := b6.cell 0
          have d1 : (Wf).cell? ⟨w5.heap.size + 1, 1, none⟩ = some (.int .i64 n1) := b6.cell 1
          have d2 : (Wf).cell? ⟨w5.heap.size + 1, 2, none⟩ = some (.slice Ab Nb cb) := b6.cell 2
          have x0 : (Wf).cell? ⟨w6.heap.size + 1, 0, none⟩ = some (.bool l1) := bx.cell 0
          have x1 : (Wf).cell? ⟨w6.heap.size + 1, 1, none⟩ = some (.int .i64 n1) := bx.cell 1
          have x2 : (Wf).cell? ⟨w6.heap.size + 1, 2, none⟩ = some (.slice (some ⟨b, o, none⟩) k c) := bx.cell 2
          have y0 : (Wf).cell? ⟨w6.heap.size, 0, none⟩ = some (.bool l1) := by'.cell 0
          have y1 : (Wf).cell? ⟨w6.heap.size, 1, none⟩ = some (.int .i64 n1) := by'.cell 1
          have y2 : (Wf).cell? ⟨w6.heap.size, 2, none⟩ = some (.slice (some ⟨b, o + k * 2, none⟩) (us.length - k) (c - k)) := by'.cell 2
          clear b5 b6 bx by' q8 q7
          go_wp2_with fail
          refine wp_region_grow_lit (by kernel_rfl) (by kernel_rfl) ?_
          apply Exists.intro
          apply And.intro
          · repeat (first
              | (apply wpGrow_skip rfl
                 intro K hK
                 go_simp
                 refine hK _ ?_
                 clear hK K)
              | (apply wpGrow_is rfl
                 · intro wg hwg _
                   have p0 := cell_later hwg p0
                   have p1 := cell_later hwg p1
                   have p2 := cell_later hwg p2
                   have a0 := cell_later hwg a0
                   have a1 := cell_later hwg a1
                   have a2 := cell_later hwg a2
                   have d0 := cell_later hwg d0
                   have d1 := cell_later hwg d1
                   have d2 := cell_later hwg d2
                   have x0 := cell_later hwg x0
                   have x1 := cell_later hwg x1
                   have x2 := cell_later hwg x2
                   have y0 := cell_later hwg y0
                   have y1 := cell_later hwg y1
                   have y2 := cell_later hwg y2
                   unfold grows
                   go_simp
                   first
                     | exact grows_value _ _
                     | (apply grows_call; go_at_call 11; exact awake10_any wg (HB.out.later hwg))
                     | (apply grows_call; go_at_call_of 20 ca; exact refPSame_at true _ _ l1 l1 n1 n1 _ _ (us.take k) (us.take k) wg (Cs.up hca2.out hwg) (Cs.up HP.out hwg) (by simp))
                     | (apply grows_call; go_at_call_of 20 cb; exact refPSame_at true _ _ l1 l1 n1 n1 _ _ (us.drop k) (us.drop k) wg (Cs.up hcb2.out hwg) (Cs.up HD.out hwg) (by simp))
                 intro K hK
                 go_simp
                 refine hK _ ?_
                 clear hK K))
            apply wpGrow_rel (V := VPg l1 n1 us) rfl
            · intro wg hwg hf
              unfold grows
              go_simp
              refine ⟨Below.refl _ _, ?_⟩
              go_at_call 26
              exact (pjoin_any _ _ l1 l1 n1 n1 _ _ (us.take k) (us.drop k) wg (by rw [List.length_take]; omega) (by rw [List.length_drop]; omega) (Cs.up hca2.out hwg) (Cs.up hcb2.out hwg)).mono fun e w' ⟨v, he, hp, hbb⟩ => ⟨v, he, hbb, by have := hp.lower (Nat.zero_le _); rw [List.take_append_drop] at this; exact this⟩
            intro xv hxv K hK
            obtain ⟨wx, _, hbx⟩ := hxv
            have hbo := hbx
            obtain ⟨A18, c18, rfl, _⟩ := hbo
            go_simp
            refine hK _ ?_
            clear hK K hbx
            repeat (first
              | (apply wpGrow_skip rfl
                 intro K hK
                 go_simp
                 refine hK _ ?_
                 clear hK K)
              | (apply wpGrow_is rfl
                 · intro wg hwg _
                   have p0 := cell_later hwg p0
                   have p1 := cell_later hwg p1
                   have p2 := cell_later hwg p2
                   unfold grows
                   go_simp
                   first
                     | exact grows_value _ _
                     | (fail)
                 intro K hK
                 go_simp
                 refine hK _ ?_
                 clear hK K))
            apply wpGrow_is rfl
            · intro wg hwg hf
              have hb6 : VPg l1 n1 us (.agg #[.bool l1, .int .i64 n1, .slice A18 us.length c18]) wg := hf ⟨18, .data⟩ (by simp) rfl _ _ (by kernel_rfl)
              obtain ⟨A6, c6, he6, hc6⟩ := hb6
              cases he6
              clear hf
              unfold grows
              go_simp
              apply grows_call
              go_at_call 20
              exact refPSame_at true _ _ l1 l1 n1 n1 _ _ us us wg hc6 (Cs.up HA.out hwg) (by simp)
            intro K hK
            go_simp
            refine hK _ ?_
            clear hK K
            repeat (first
              | (apply wpGrow_skip rfl
                 intro K hK
                 go_simp
                 refine hK _ ?_
                 clear hK K)
              | (apply wpGrow_is rfl
                 · intro wg hwg _
                   skip
                   unfold grows
                   go_simp
                   first
                     | exact grows_value _ _
                     | (fail)
                 intro K hK
                 go_simp
                 refine hK _ ?_
                 clear hK K))
            refine wpGrow_end (fun wg hwg _ => ?_)
            go_wp2_with fail
            go_ret
            exact ⟨by simp, q.trans (hwg.mono q.size)⟩
          · apply And.intro
            · repeat (first | exact trivial | (refine ⟨Stays.is _, ?_⟩) | (refine ⟨Stays.bs _, ?_⟩) | (refine ⟨Stays.pg _ _ _, ?_⟩))
            · rfl
  · refine (few_any false _ l1 n1 _ us W HA.out ⟨(fun h => by cases h), fun h => absurd h hf⟩).mono ?_
    rintro e w4 ⟨rfl, hbl⟩
    have q := q.trans (hbl.mono q.size)
    have HB := Lib.hid (HB.out.later hbl)
    clear hbl
    go_wp2_with fail
    refine (awake10_any w4 HB.out).mono ?_
    rintro e w5 ⟨rfl, hbl⟩
    go_wp2_with fail
    go_ret
    exact ⟨rfl, q.trans (hbl.mono q.size)⟩
end Go.Proofs.YtlidbgidbpaenaaDoor
