/- What the proof of PagePuts needs, part 35. -/
import Derived.Test.YtlidbgidbpaenaaDoorPagePutsJ22
import Derived.Test.YtlidbgidbpaenaaDoorPagePutsJ32
import Derived.Test.YtlidbgidbpaenaaDoorPagePutsJ34
import Derived.Deep.RegionHeld3

namespace Go.Proofs.YtlidbgidbpaenaaDoor
open Go Go.RowKit
set_option linter.unusedVariables false

theorem PgIs.shape {B : Nat} {w : World} {v : Value} {leaf : Bool} {next : Int} {cs : List Cel} (h : PgIs B w v leaf next cs) : ∃ A c, v = .agg #[.bool leaf, .int .i64 next, .slice A cs.length c] ∧ Cs (fun b => b < w.heap.size) w (.slice A cs.length c) cs := by
  obtain ⟨A, c, rfl, h⟩ := h
  exact ⟨A, c, rfl, Sl.more h fun b hb => hb.2⟩

set_option maxHeartbeats 8000000 in
set_option maxRecDepth 100000 in
theorem law_PagePuts (l1 : Bool) (n1 : Int) (va : Value) (us : List Cel) (k v : List UInt8) (w : World) (hb : BitsOk w) (h1 : -9223372036854775808 ≤ n1 ∧ n1 ≤ 9223372036854775807) (ha : Cs (fun b => b < w.heap.size) w va us) (hkl : k.length ≤ 9223372036854775807) (hvl : v.length ≤ 9223372036854775807) :
    Calls Tryd.prog 9 #[.agg #[.bool l1, .int .i64 n1, va], .agg #[.string (st k), .string (st v)]] w fun e w' => e = .returned (.bool true) ∧ Below w.heap.size w w' := by
  have HA := Lib.hid ha
  obtain ⟨A, c, rfl, hlc, hcm, _⟩ := ha.at
  have q := ((Below.refl w.heap.size w).alloc (Nat.le_refl _) (.cells #[.bool l1, .int .i64 n1, .slice A us.length c] 24)).alloc (by simp) (.cells #[.string (st k), .string (st v)] 47)
  have b1 : Blk ((w.alloc (.cells #[.bool l1, .int .i64 n1, .slice A us.length c] 24)).alloc (.cells #[.string (st k), .string (st v)] 47)) w.heap.size 24 #[.bool l1, .int .i64 n1, .slice A us.length c] := (Blk.new _ _ _).alloc _
  have b2 : Blk ((w.alloc (.cells #[.bool l1, .int .i64 n1, .slice A us.length c] 24)).alloc (.cells #[.string (st k), .string (st v)] 47)) (w.heap.size + 1) 47 #[.string (st k), .string (st v)] := Blk.new1 _ _ _ _
  have HB := Lib.hid (hb.later q)
  have HA := Lib.hid (HA.out.up q)
  have HN := Lib.hid h1
  clear ha hb h1
  go_enter Tryd.func9, Tryd.ntmps9
  go_wp2_with fail
  generalize hW : (w.alloc (.cells #[.bool l1, .int .i64 n1, .slice A us.length c] 24)).alloc (.cells #[.string (st k), .string (st v)] 47) = W at *
  clear hW
  have p0 : (W).cell? ⟨w.heap.size, 0, none⟩ = some (.bool l1) := b1.cell 0
  have p1 : (W).cell? ⟨w.heap.size, 1, none⟩ = some (.int .i64 n1) := b1.cell 1
  have p2 : (W).cell? ⟨w.heap.size, 2, none⟩ = some (.slice A us.length c) := b1.cell 2
  have c0 : (W).cell? ⟨w.heap.size + 1, 0, none⟩ = some (.string (st k)) := b2.cell 0
  have c1 : (W).cell? ⟨w.heap.size + 1, 1, none⟩ = some (.string (st v)) := b2.cell 1
  clear b1 b2
  go_wp2_with fail
  by_cases hf : Few us
  case neg =>
    refine (few_any false _ l1 n1 _ us W HA.out ⟨(fun h => by cases h), fun h => absurd h hf⟩).mono ?_
    rintro e w4 ⟨rfl, hbl⟩
    have q := q.trans (hbl.mono q.size)
    have HB := Lib.hid (HB.out.later hbl)
    clear hbl
    go_wp2_with fail
    refine (awake10_any w4 HB.out).mono ?_
    rintro e w5 ⟨rfl, hbl⟩
    go_wp2_with fail
    go_ret
    exact ⟨rfl, q.trans (hbl.mono q.size)⟩
  refine (few_any true _ l1 n1 _ us W HA.out ⟨fun _ => hf, fun _ => rfl⟩).mono ?_
  rintro e w3 ⟨rfl, hbl⟩
  have q := q.trans (hbl.mono q.size)
  have p0 := cell_later hbl p0
  have p1 := cell_later hbl p1
  have p2 := cell_later hbl p2
  have c0 := cell_later hbl c0
  have c1 := cell_later hbl c1
  have HB := Lib.hid (HB.out.later hbl)
  have HA := Lib.hid (HA.out.up hbl)
  have hl1 : us.length ≤ 100 := hf.1
  clear hf hbl
  go_wp2_with fail
  by_cases hri : RisesP us
  case neg =>
    refine (refRises_any false _ l1 n1 _ us w3 (by omega) HA.out ⟨(fun h => by cases h), fun h => absurd h hri⟩).mono ?_
    rintro e w4 ⟨rfl, hbl⟩
    have q := q.trans (hbl.mono q.size)
    have HB := Lib.hid (HB.out.later hbl)
    clear hbl
    go_wp2_with fail
    refine (awake10_any w4 HB.out).mono ?_
    rintro e w5 ⟨rfl, hbl⟩
    go_wp2_with fail
    go_ret
    exact ⟨rfl, q.trans (hbl.mono q.size)⟩
  refine (refRises_any true _ l1 n1 _ us w3 (by omega) HA.out ⟨fun _ => hri, fun _ => rfl⟩).mono ?_
  rintro e w4 ⟨rfl, hbl⟩
  have q := q.trans (hbl.mono q.size)
  have p0 := cell_later hbl p0
  have p1 := cell_later hbl p1
  have p2 := cell_later hbl p2
  have c0 := cell_later hbl c0
  have c1 := cell_later hbl c1
  have HB := Lib.hid (HB.out.later hbl)
  have HA := Lib.hid (HA.out.up hbl)
  have HRI := Lib.hid hri
  have HAS := Lib.hid hri.asc
  clear hri hbl
  by_cases hk6 : 600 < k.length
  · go_wp2_with fail
    refine (awake10_any w4 HB.out).mono ?_
    rintro e w5 ⟨rfl, hbl⟩
    go_wp2_with fail
    go_ret
    exact ⟨rfl, q.trans (hbl.mono q.size)⟩
  by_cases hv6 : 600 < v.length
  · go_wp2_with fail
    refine (awake10_any w4 HB.out).mono ?_
    rintro e w5 ⟨rfl, hbl⟩
    go_wp2_with fail
    go_ret
    exact ⟨rfl, q.trans (hbl.mono q.size)⟩
  go_wp2_with fail
  by_cases hlong : 480 < k.length + v.length
  · have hlongi : (480 : Int) < (k.length : Int) + (v.length : Int) := by omega
    refine (pput_long _ l1 n1 _ us k v w4 HA.out (by omega) (by omega) hlong).mono ?_
    rintro e w5 ⟨rfl, hbl⟩
    have q5 := (hbl.alloc hbl.size (.cells #[.bool false, .int .i64 0, .slice none 0 0] 24))
    have q := q.trans (q5.mono q.size)
    have bq := Blk.new w5 24 #[.bool false, .int .i64 0, .slice none 0 0]
    have c0 := cell_later q5 c0
    have c1 := cell_later q5 c1
    have HB := Lib.hid (HB.out.later q5)
    have d0 : ((w5.alloc (.cells #[.bool false, .int .i64 0, .slice none 0 0] 24))).cell? ⟨w5.heap.size, 0, none⟩ = some (.bool false) := bq.cell 0
    have d1 : ((w5.alloc (.cells #[.bool false, .int .i64 0, .slice none 0 0] 24))).cell? ⟨w5.heap.size, 1, none⟩ = some (.int .i64 0) := bq.cell 1
    have d2 : ((w5.alloc (.cells #[.bool false, .int .i64 0, .slice none 0 0] 24))).cell? ⟨w5.heap.size, 2, none⟩ = some (.slice none 0 0) := bq.cell 2
    clear hbl p0 p1 p2 q5
    go_wp2_with fail
    refine (awake10_any _ HB.out).mono ?_
    rintro e w6 ⟨rfl, hbl⟩
    have q := q.trans (hbl.mono q.size)
    have d0 := cell_later hbl d0
    have d1 := cell_later hbl d1
    have d2 := cell_later hbl d2
    clear hbl
    go_wp2_with fail
    refine (refPSame_at true (fun _ => True) (fun _ => True) false false 0 0 _ _ [] [] w6 Sl.nil Sl.nil (by simp)).mono ?_
    rintro e w7 ⟨rfl, hbl⟩
    go_wp2_with fail
    go_ret
    exact ⟨rfl, q.trans (hbl.mono q.size)⟩
  have hlongi : ¬ (480 : Int) < (k.length : Int) + (v.length : Int) := by omega
  refine (pput_any _ l1 n1 _ us k v w4 (by omega) HA.out HRI.out (by omega)).mono ?_
  rintro e w5 ⟨vq, rfl, hpq, hbl⟩
  obtain ⟨Aq, cq, rfl, hcq⟩ := hpq.shape
  have HPR : Hid (RisesP (putC us (k, v))) := (HAS.out.putC (k, v)).rises
  have HPK : Hid (isK (putC us (k, v)) k = true) := isK_put HAS.out (k, v)
  have HPD : Hid (delC (putC us (k, v)) k = delC us k) := del_put HAS.out (k, v)
  have hpl := putC_len us (k, v)
  obtain ⟨out, hout⟩ : ∃ out, putC us (k, v) = out := ⟨_, rfl⟩
  rw [hout] at hcq HPR HPK HPD hpl ⊢
  have HO := Lib.hid hout
  have hol : out.length ≤ 101 := by omega
  clear hpq hout hpl
  have q5 := (hbl.alloc hbl.size (.cells #[.bool l1, .int .i64 n1, .slice Aq out.length cq] 24))
  have hcq2 := Cs.up hcq ((Below.refl w5.heap.size w5).alloc (Nat.le_refl _) (.cells #[.bool l1, .int .i64 n1, .slice Aq out.length cq] 24))
  have q := q.trans (q5.mono q.size)
  have bq := Blk.new w5 24 #[.bool l1, .int .i64 n1, .slice Aq out.length cq]
  have HCQ := Lib.hid hcq2
  have p0 := cell_later q5 p0
  have p1 := cell_later q5 p1
  have p2 := cell_later q5 p2
  have c0 := cell_later q5 c0
  have c1 := cell_later q5 c1
  have HB := Lib.hid (HB.out.later q5)
  have HA := Lib.hid (HA.out.up q5)
  clear hbl q5 hcq hcq2
  go_upto_region 6 with (fail)
  generalize hW5 : w5.alloc _ = W5 at *
  clear hW5
  generalize w5.heap.size = bq5 at *
  have d0 : (W5).cell? ⟨bq5, 0, none⟩ = some (.bool l1) := bq.cell 0
  have d1 : (W5).cell? ⟨bq5, 1, none⟩ = some (.int .i64 n1) := bq.cell 1
  have d2 : (W5).cell? ⟨bq5, 2, none⟩ = some (.slice Aq out.length cq) := bq.cell 2
  have KP : Hid (∀ W, Below W5.heap.size W5 W → W.cell? ⟨w.heap.size, 0, none⟩ = some (.bool l1) ∧ W.cell? ⟨w.heap.size, 1, none⟩ = some (.int .i64 n1) ∧ W.cell? ⟨w.heap.size, 2, none⟩ = some (.slice A us.length c) ∧ W.cell? ⟨w.heap.size + 1, 0, none⟩ = some (.string (st k)) ∧ W.cell? ⟨w.heap.size + 1, 1, none⟩ = some (.string (st v)) ∧
    W.cell? ⟨bq5, 0, none⟩ = some (.bool l1) ∧ W.cell? ⟨bq5, 1, none⟩ = some (.int .i64 n1) ∧ W.cell? ⟨bq5, 2, none⟩ = some (.slice Aq out.length cq) ∧ Below W5.heap.size W5 W) := fun W hW => ⟨cell_later hW p0, cell_later hW p1, cell_later hW p2, cell_later hW c0, cell_later hW c1, cell_later hW d0, cell_later hW d1, cell_later hW d2, hW⟩
  have HX0 : Hid (Below W5.heap.size W5 W5.drew) := (Below.refl _ _).drew
  have HT := Lib.hid (refPgPut_any (fun b => b < W5.drew.heap.size) l1 n1 _ us k v W5.drew (by omega) (Cs.up HA.out HX0.out) HRI.out)
  clear p0 p1 p2 c0 c1 d0 d1 d2
  go_region_held3 (fun W => W.cell? ⟨w.heap.size, 0, none⟩ = some (.bool l1) ∧ W.cell? ⟨w.heap.size, 1, none⟩ = some (.int .i64 n1) ∧ W.cell? ⟨w.heap.size, 2, none⟩ = some (.slice A us.length c) ∧ W.cell? ⟨w.heap.size + 1, 0, none⟩ = some (.string (st k)) ∧ W.cell? ⟨w.heap.size + 1, 1, none⟩ = some (.string (st v)) ∧
    W.cell? ⟨bq5, 0, none⟩ = some (.bool l1) ∧ W.cell? ⟨bq5, 1, none⟩ = some (.int .i64 n1) ∧ W.cell? ⟨bq5, 2, none⟩ = some (.slice Aq out.length cq) ∧ Below W5.heap.size W5 W)
    (first
      | exact KP.out _ HX0.out
      | exact KP.out _ HX1.out
      | exact KP.out _ HX2.out
      | fail)
    ((first
      | (go_at_call 29; refine HT.out.mono ?_; rintro e w6 ⟨vp, rfl, hpp, hb6⟩; rw [HO.out] at hpp; obtain ⟨Ap, cp, rfl, hcp⟩ := hpp.shape; have HX1 := Lib.hid (HX0.out.trans (hb6.mono HX0.out.size)))
      | (go_at_call 20; refine (refPSame_at true (fun b => b < w6.heap.size) (fun b => b < w6.heap.size) l1 l1 n1 n1 _ _ out out _ (by exact Cs.up HCQ.out HX1.out) (by exact hcp) (by simp)).mono ?_; rintro e w7 ⟨rfl, hb7⟩; have HX2 := Lib.hid (HX1.out.trans (hb7.mono HX1.out.size)))
      | fail))
  obtain ⟨p0, p1, p2, c0, c1, d0, d1, d2, -⟩ := KP.out _ HX2.out
  have q := q.trans (HX2.out.mono q.size)
  have hx := HX2.out
  have HB := Lib.hid (HB.out.later hx)
  have HA := Lib.hid (HA.out.up hx)
  have HCQ := Lib.hid (HCQ.out.up hx)
  clear HX0 HX1 HX2 HT KP hx hcp hpp hb6 hb7
  have hdl := delC_len us k
  have HRM := Lib.hid (premove_any _ l1 n1 _ out k w7 (by omega) HCQ.out HPR.out HPK.out)
  rw [HPD.out] at HRM
  have HDN : Hid (isK us k = false → delC us k = us) := delC_no
  obtain ⟨del, hdel⟩ : ∃ del, delC us k = del := ⟨_, rfl⟩
  rw [hdel] at HRM hdl HDN
  have HDE := Lib.hid hdel
  clear hdel HPR HPK HPD
  go_wp2_with fail
  refine HRM.out.mono ?_
  rintro e w8 ⟨vr, rfl, hpr, hbl⟩
  obtain ⟨Ar, cr, rfl, hcr⟩ := hpr.shape
  have q8 := (hbl.alloc hbl.size (.cells #[.bool l1, .int .i64 n1, .slice Ar del.length cr] 24))
  have HCR := Lib.hid (Cs.up hcr ((Below.refl w8.heap.size w8).alloc (Nat.le_refl _) (.cells #[.bool l1, .int .i64 n1, .slice Ar del.length cr] 24)))
  have q := q.trans (q8.mono q.size)
  have br := Blk.new w8 24 #[.bool l1, .int .i64 n1, .slice Ar del.length cr]
  have p0 := cell_later q8 p0
  have p1 := cell_later q8 p1
  have p2 := cell_later q8 p2
  have c0 := cell_later q8 c0
  have c1 := cell_later q8 c1
  have HB := Lib.hid (HB.out.later q8)
  have HA := Lib.hid (HA.out.up q8)
  clear hbl q8 hcr hpr HRM HCQ d0 d1 d2
  go_upto_region 9 with (fail)
  generalize hW8 : w8.alloc _ = W8 at *
  clear hW8
  generalize w8.heap.size = br8 at *
  have r0 : (W8).cell? ⟨br8, 0, none⟩ = some (.bool l1) := br.cell 0
  have r1 : (W8).cell? ⟨br8, 1, none⟩ = some (.int .i64 n1) := br.cell 1
  have r2 : (W8).cell? ⟨br8, 2, none⟩ = some (.slice Ar del.length cr) := br.cell 2
  clear br
  cases hY : isK us k with
  | true =>
    have HRM2 := Lib.hid (premove_any _ l1 n1 _ us k W8 (by omega) HA.out HRI.out hY)
    rw [HDE.out] at HRM2
    have HY := Lib.hid hY
    clear hY HDN
    go_wp2_with fail
    refine HRM2.out.mono ?_
    rintro e w9 ⟨vs, rfl, hps, hbl⟩
    obtain ⟨As, cs, rfl, hcs⟩ := hps.shape
    have q9 := (hbl.alloc hbl.size (.cells #[.bool l1, .int .i64 n1, .slice As del.length cs] 24))
    have HCS := Lib.hid (Cs.up hcs ((Below.refl w9.heap.size w9).alloc (Nat.le_refl _) (.cells #[.bool l1, .int .i64 n1, .slice As del.length cs] 24)))
    have q := q.trans (q9.mono q.size)
    have bs := Blk.new w9 24 #[.bool l1, .int .i64 n1, .slice As del.length cs]
    have p0 := cell_later q9 p0
    have p1 := cell_later q9 p1
    have p2 := cell_later q9 p2
    have c0 := cell_later q9 c0
    have c1 := cell_later q9 c1
    have r0 := cell_later q9 r0
    have r1 := cell_later q9 r1
    have r2 := cell_later q9 r2
    have HB := Lib.hid (HB.out.later q9)
    have HA := Lib.hid (HA.out.up q9)
    have HCR := Lib.hid (HCR.out.up q9)
    clear hbl q9 hcs hps HRM2
    go_upto_region 10 with (fail)
    generalize hW9 : w9.alloc _ = W9 at *
    clear hW9
    generalize w9.heap.size = bs9 at *
    have s0 : (W9).cell? ⟨bs9, 0, none⟩ = some (.bool l1) := bs.cell 0
    have s1 : (W9).cell? ⟨bs9, 1, none⟩ = some (.int .i64 n1) := bs.cell 1
    have s2 : (W9).cell? ⟨bs9, 2, none⟩ = some (.slice As del.length cs) := bs.cell 2
    clear bs
    go_wp2_with fail
    refine (refFind_any _ l1 n1 _ us k W9 (by omega) HA.out).mono ?_
    rintro e w10 ⟨rfl, hbl⟩
    rw [HY.out]
    have q := q.trans (hbl.mono q.size)
    have r0 := cell_later hbl r0
    have r1 := cell_later hbl r1
    have r2 := cell_later hbl r2
    have s0 := cell_later hbl s0
    have s1 := cell_later hbl s1
    have s2 := cell_later hbl s2
    have HB := Lib.hid (HB.out.later hbl)
    have HCR := Lib.hid (HCR.out.up hbl)
    have HCS := Lib.hid (HCS.out.up hbl)
    clear hbl p0 p1 p2 c0 c1
    go_wp2_with fail
    refine (awake10_any w10 HB.out).mono ?_
    rintro e w11 ⟨rfl, hbl⟩
    have q := q.trans (hbl.mono q.size)
    have r0 := cell_later hbl r0
    have r1 := cell_later hbl r1
    have r2 := cell_later hbl r2
    have s0 := cell_later hbl s0
    have s1 := cell_later hbl s1
    have s2 := cell_later hbl s2
    have HCR := Lib.hid (HCR.out.up hbl)
    have HCS := Lib.hid (HCS.out.up hbl)
    clear hbl
    go_wp2_with fail
    refine (refPSame_at true _ _ l1 l1 n1 n1 _ _ del del w11 HCR.out HCS.out (by simp)).mono ?_
    rintro e w12 ⟨rfl, hbl⟩
    go_wp2_with fail
    go_ret
    exact ⟨rfl, q.trans (hbl.mono q.size)⟩
  | false =>
    have HRM2 := Lib.hid (premove_no _ l1 n1 _ us k W8 (by omega) HA.out HRI.out hY)
    have HDU := Lib.hid (HDN.out hY)
    have HY := Lib.hid hY
    clear hY HDN
    go_wp2_with fail
    refine HRM2.out.mono ?_
    rintro e w9 ⟨rfl, hbl⟩
    have q9 := (hbl.alloc hbl.size (.cells #[.bool false, .int .i64 0, .slice none 0 0] 24))
    have q := q.trans (q9.mono q.size)
    have bs := Blk.new w9 24 #[.bool false, .int .i64 0, .slice none 0 0]
    have p0 := cell_later q9 p0
    have p1 := cell_later q9 p1
    have p2 := cell_later q9 p2
    have c0 := cell_later q9 c0
    have c1 := cell_later q9 c1
    have r0 := cell_later q9 r0
    have r1 := cell_later q9 r1
    have r2 := cell_later q9 r2
    have HB := Lib.hid (HB.out.later q9)
    have HA := Lib.hid (HA.out.up q9)
    have HCR := Lib.hid (HCR.out.up q9)
    clear hbl q9 HRM2
    go_upto_region 10 with (fail)
    generalize hW9 : w9.alloc _ = W9 at *
    clear hW9
    generalize w9.heap.size = bs9 at *
    have s0 : (W9).cell? ⟨bs9, 0, none⟩ = some (.bool false) := bs.cell 0
    have s1 : (W9).cell? ⟨bs9, 1, none⟩ = some (.int .i64 0) := bs.cell 1
    have s2 : (W9).cell? ⟨bs9, 2, none⟩ = some (.slice none 0 0) := bs.cell 2
    clear bs
    go_wp2_with fail
    refine (refFind_any _ l1 n1 _ us k W9 (by omega) HA.out).mono ?_
    rintro e w10 ⟨rfl, hbl⟩
    rw [HY.out]
    have q := q.trans (hbl.mono q.size)
    have p0 := cell_later hbl p0
    have p1 := cell_later hbl p1
    have p2 := cell_later hbl p2
    have r0 := cell_later hbl r0
    have r1 := cell_later hbl r1
    have r2 := cell_later hbl r2
    have s0 := cell_later hbl s0
    have s1 := cell_later hbl s1
    have s2 := cell_later hbl s2
    have HB := Lib.hid (HB.out.later hbl)
    have HA := Lib.hid (HA.out.up hbl)
    have HCR := Lib.hid (HCR.out.up hbl)
    clear hbl c0 c1
    go_wp2_with fail
    refine (awake10_any w10 HB.out).mono ?_
    rintro e w11 ⟨rfl, hbl⟩
    have q := q.trans (hbl.mono q.size)
    have p0 := cell_later hbl p0
    have p1 := cell_later hbl p1
    have p2 := cell_later hbl p2
    have r0 := cell_later hbl r0
    have r1 := cell_later hbl r1
    have r2 := cell_later hbl r2
    have s0 := cell_later hbl s0
    have s1 := cell_later hbl s1
    have s2 := cell_later hbl s2
    have HA := Lib.hid (HA.out.up hbl)
    have HCR := Lib.hid (HCR.out.up hbl)
    clear hbl
    go_wp2_with fail
    refine (refPSame_at true _ _ l1 l1 n1 n1 _ _ del us w11 HCR.out HA.out (by rw [HDU.out]; simp)).mono ?_
    rintro e w12 ⟨rfl, hbl⟩
    have q := q.trans (hbl.mono q.size)
    have s0 := cell_later hbl s0
    have s1 := cell_later hbl s1
    have s2 := cell_later hbl s2
    clear hbl
    go_wp2_with fail
    refine (refPSame_at true (fun _ => True) (fun _ => True) false false 0 0 _ _ [] [] w12 Sl.nil Sl.nil (by simp)).mono ?_
    rintro e w13 ⟨rfl, hbl⟩
    go_wp2_with fail
    go_ret
    exact ⟨rfl, q.trans (hbl.mono q.size)⟩
end Go.Proofs.YtlidbgidbpaenaaDoor
