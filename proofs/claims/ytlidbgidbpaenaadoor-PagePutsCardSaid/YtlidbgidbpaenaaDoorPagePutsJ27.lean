/- What the proof of PagePuts needs, part 27. -/
import Derived.Test.YtlidbgidbpaenaaDoorPagePutsJ15
import Derived.Test.YtlidbgidbpaenaaDoorPagePutsJ25
import Derived.Test.YtlidbgidbpaenaaDoorPagePutsJ26
import Derived.Deep.Cut
import Derived.Deep.DeepCutAuto

namespace Go.Proofs.YtlidbgidbpaenaaDoor
open Go Go.RowKit
set_option linter.unusedVariables false

theorem ccs_set : ∀ (cs : List Cel) (i : Nat) (x : Cel), ccs (cs.set i x) = ((ccs cs).set (i * 2) (.string (st x.1))).set (i * 2 + 1) (.string (st x.2))
  | [], i, x => by simp [ccs]
  | c :: cs, 0, x => by simp [ccs]
  | c :: cs, i + 1, x => by
    have ih := ccs_set cs i x
    unfold ccs at ih ⊢
    rw [List.set_cons_succ, List.flatMap_cons, List.flatMap_cons, ih, show (i + 1) * 2 = i * 2 + 1 + 1 by omega]
    rfl
/-- One of the cells that a slice owns put anew. -/
theorem Co.set {w : World} {B g cap : Nat} {cs : List Cel} (h : Co w B (.slice (some ⟨g, 0, none⟩) cs.length cap) cs) {i : Nat} (hi : i < cs.length) (x : Cel) :
    Co ((w.setCell ⟨g, i * 2, none⟩ (.string (st x.1))).setCell ⟨g, i * 2 + 1, none⟩ (.string (st x.2))) B (.slice (some ⟨g, 0, none⟩) cs.length cap) (cs.set i x) := by
  obtain ⟨h1, h2⟩ := h
  rcases h2 with ⟨h2, h3⟩ | ⟨g', cap', cur, hv, hBg, hg, hnc, hcm, hcs, hct⟩
  · cases h2
  · injection hv with h4 _ h5
    injection h4 with h4
    injection h4 with h4
    subst h4 h5
    unfold Co
    rw [List.length_set]
    refine ⟨by rw [ccs_len, List.length_set], .inr ⟨g, cap, (cur.setIfInBounds (i * 2) (.string (st x.1))).setIfInBounds (i * 2 + 1) (.string (st x.2)), rfl, hBg, ?_, hnc, hcm, by simp [hcs], ?_⟩⟩
    · exact heap_setCell_same _ g (i * 2 + 1) _ _ _ (heap_setCell_same w g (i * 2) cur _ _ hg)
    · rw [Array.toList_setIfInBounds, Array.toList_setIfInBounds, List.take_set, List.take_set, hct, ccs_set]
theorem Co.at {w : World} {B : Nat} {v : Value} {cs : List Cel} (h : Co w B v cs) (h0 : 0 < cs.length) : ∃ g cap, v = .slice (some ⟨g, 0, none⟩) cs.length cap ∧ B ≤ g ∧ cs.length ≤ cap ∧ (∀ i : Nat, i < cs.length → (∃ y, w.cell? ⟨g, i * 2, none⟩ = some y) ∧ (∃ y, w.cell? ⟨g, i * 2 + 1, none⟩ = some y)) ∧ ∀ o, w.frozen? ⟨g, o, none⟩ = false := by
  obtain ⟨h1, h2⟩ := h
  rcases h2 with ⟨h2, h3⟩ | ⟨g, cap, cur, hv, hBg, hg, hnc, hcm, hcs, hct⟩
  · omega
  · refine ⟨g, cap, hv, hBg, hnc, fun i hi => ⟨?_, ?_⟩, fun o => by simp [World.frozen?, hg]⟩
    · exact ⟨cur[i * 2]'(by omega), by simp only [World.cell?, hg]; exact Array.getElem?_eq_getElem _⟩
    · exact ⟨cur[i * 2 + 1]'(by omega), by simp only [World.cell?, hg]; exact Array.getElem?_eq_getElem _⟩

set_option maxHeartbeats 2000000 in
set_option maxRecDepth 100000 in
theorem pput_long (S : Nat → Prop) (leaf : Bool) (next : Int) (v0 : Value) (cs : List Cel) (k v : List UInt8) (w : World) (hr : Cs S w v0 cs) (hk : k.length ≤ 65536) (hv : v.length ≤ 65536) (hlong : 480 < k.length + v.length) :
    Calls Tryd.prog 28 #[.agg #[.bool leaf, .int .i64 next, v0], .agg #[.string (st k), .string (st v)]] w fun e w' => e = .returned (.tuple #[.agg #[.bool false, .int .i64 0, .slice none 0 0], .int .i64 100]) ∧ Below w.heap.size w w' := by
  obtain ⟨A, c, rfl, hlc, hcm, hA0, _⟩ := hr.at
  clear hr
  have hb2 : Blk (((w.alloc (.cells #[.bool leaf, .int .i64 next, .slice A cs.length c] 24)).alloc (.cells #[.string (st k), .string (st v)] 47)).alloc (.cells #[.bool false, .int .i64 0, .slice none 0 0] 24)) (w.heap.size + 1 + 1) 24 #[.bool false, .int .i64 0, .slice none 0 0] := by
    have := Blk.new1 (w.alloc (.cells #[.bool leaf, .int .i64 next, .slice A cs.length c] 24)) (.cells #[.string (st k), .string (st v)] 47) 24 #[.bool false, .int .i64 0, .slice none 0 0]
    simpa using this
  have hq : Below w.heap.size w (((w.alloc (.cells #[.bool leaf, .int .i64 next, .slice A cs.length c] 24)).alloc (.cells #[.string (st k), .string (st v)] 47)).alloc (.cells #[.bool false, .int .i64 0, .slice none 0 0] 24)) := (((Below.refl _ _).alloc (Nat.le_refl _) _).alloc (by simp) _).alloc (by simp; omega) _
  go_enter Tryd.func28, Tryd.ntmps28
  go_wp2_with fail
  generalize hW : (((w.alloc (.cells #[.bool leaf, .int .i64 next, .slice A cs.length c] 24)).alloc (.cells #[.string (st k), .string (st v)] 47)).alloc (.cells #[.bool false, .int .i64 0, .slice none 0 0] 24)) = W at *
  clear hW
  refine (great_any k v W hk hv).mono ?_
  rintro e w1 ⟨rfl, hbl⟩
  rw [decide_eq_true hlong]
  have hq2 := hq.trans (hbl.mono hq.size)
  have hb := hb2.later hbl
  have d0 : (w1).cell? ⟨w.heap.size + 1 + 1, 0, none⟩ = some (.bool false) := hb.cell 0
  have d1 : (w1).cell? ⟨w.heap.size + 1 + 1, 1, none⟩ = some (.int .i64 0) := hb.cell 1
  have d2 : (w1).cell? ⟨w.heap.size + 1 + 1, 2, none⟩ = some (.slice none 0 0) := hb.cell 2
  have df0 : (w1).frozen? ⟨w.heap.size + 1 + 1, 0, none⟩ = false := hb.free 0
  have df1 : (w1).frozen? ⟨w.heap.size + 1 + 1, 1, none⟩ = false := hb.free 1
  have df2 : (w1).frozen? ⟨w.heap.size + 1 + 1, 2, none⟩ = false := hb.free 2
  have HB := Lib.hid (hb.put3 (.bool false) (.int .i64 0) (.slice none 0 0))
  have HQ := Lib.hid (below_put3 hq2 (show w.heap.size ≤ w.heap.size + 1 + 1 by omega) (.bool false) (.int .i64 0) (.slice none 0 0))
  clear hb2 hbl hb hq hq2
  go_wp2_with fail
  exact bodyPost_ret (results_cell2 rfl _ _ (w.heap.size + 1 + 1) rfl HB.out pageTy) rfl ⟨rfl, HQ.out⟩

set_option maxHeartbeats 4000000 in
set_option maxRecDepth 100000 in
theorem pput_any (S : Nat → Prop) (leaf : Bool) (next : Int) (v0 : Value) (cs : List Cel) (k v : List UInt8) (w : World) (hl : cs.length ≤ 100000) (hr : Cs S w v0 cs) (hri : RisesP cs) (hs : k.length + v.length ≤ 480) :
    Calls Tryd.prog 28 #[.agg #[.bool leaf, .int .i64 next, v0], .agg #[.string (st k), .string (st v)]] w fun e w' => ∃ vq, e = .returned (.tuple #[vq, .int .i64 0]) ∧ PgIs w.heap.size w' vq leaf next (putC cs (k, v)) ∧ Below w.heap.size w w' := by
  have HR := Lib.hid hr.lt
  obtain ⟨A, c, rfl, hlc, hcm, hA0, _⟩ := hr.at
  clear hr
  have hb0 : Blk (((w.alloc (.cells #[.bool leaf, .int .i64 next, .slice A cs.length c] 24)).alloc (.cells #[.string (st k), .string (st v)] 47)).alloc (.cells #[.bool false, .int .i64 0, .slice none 0 0] 24)) w.heap.size 24 #[.bool leaf, .int .i64 next, .slice A cs.length c] := ((Blk.new _ _ _).alloc _).alloc _
  have hb1 : Blk (((w.alloc (.cells #[.bool leaf, .int .i64 next, .slice A cs.length c] 24)).alloc (.cells #[.string (st k), .string (st v)] 47)).alloc (.cells #[.bool false, .int .i64 0, .slice none 0 0] 24)) (w.heap.size + 1) 47 #[.string (st k), .string (st v)] := (Blk.new1 _ _ _ _).alloc _
  have hb2 : Blk (((w.alloc (.cells #[.bool leaf, .int .i64 next, .slice A cs.length c] 24)).alloc (.cells #[.string (st k), .string (st v)] 47)).alloc (.cells #[.bool false, .int .i64 0, .slice none 0 0] 24)) (w.heap.size + 1 + 1) 24 #[.bool false, .int .i64 0, .slice none 0 0] := by
    have := Blk.new1 (w.alloc (.cells #[.bool leaf, .int .i64 next, .slice A cs.length c] 24)) (.cells #[.string (st k), .string (st v)] 47) 24 #[.bool false, .int .i64 0, .slice none 0 0]
    simpa using this
  have hq : Below w.heap.size w (((w.alloc (.cells #[.bool leaf, .int .i64 next, .slice A cs.length c] 24)).alloc (.cells #[.string (st k), .string (st v)] 47)).alloc (.cells #[.bool false, .int .i64 0, .slice none 0 0] 24)) := (((Below.refl _ _).alloc (Nat.le_refl _) _).alloc (by simp) _).alloc (by simp; omega) _
  go_enter Tryd.func28, Tryd.ntmps28
  go_wp2_with fail
  generalize hW : (((w.alloc (.cells #[.bool leaf, .int .i64 next, .slice A cs.length c] 24)).alloc (.cells #[.string (st k), .string (st v)] 47)).alloc (.cells #[.bool false, .int .i64 0, .slice none 0 0] 24)) = W at *
  clear hW
  have hszW := hq.size
  refine (great_any k v W (by omega) (by omega)).mono ?_
  rintro e w1 ⟨rfl, hbl⟩
  rw [decide_eq_false (by omega)]
  have HR1 := Lib.hid (HR.out.up (hq.trans (hbl.mono hq.size)))
  have HQ1 := Lib.hid (hq.trans (hbl.mono hq.size))
  have b0 := hb0.later hbl
  have b1 := hb1.later hbl
  have B2 := Lib.hid (hb2.later hbl)
  clear hb0 hb1 hb2 hbl hq HR
  have p0 : (w1).cell? ⟨w.heap.size, 0, none⟩ = some (.bool leaf) := b0.cell 0
  have p1 : (w1).cell? ⟨w.heap.size, 1, none⟩ = some (.int .i64 next) := b0.cell 1
  have p2 : (w1).cell? ⟨w.heap.size, 2, none⟩ = some (.slice A cs.length c) := b0.cell 2
  have q0 : (w1).cell? ⟨w.heap.size + 1, 0, none⟩ = some (.string (st k)) := b1.cell 0
  have q1 : (w1).cell? ⟨w.heap.size + 1, 1, none⟩ = some (.string (st v)) := b1.cell 1
  go_wp2_with fail
  refine (pfind_any _ leaf next _ cs k w1 (by omega) HR1.out hri).mono ?_
  rintro e w2 ⟨rfl, hbl⟩
  have HR2 := Lib.hid (HR1.out.up hbl)
  have HQ2 := Lib.hid (HQ1.out.trans (hbl.mono HQ1.out.size))
  have b0 := b0.later hbl
  have b1 := b1.later hbl
  have B2 := Lib.hid (B2.out.later hbl)
  have p0 := cell_later hbl p0
  have p1 := cell_later hbl p1
  have p2 := cell_later hbl p2
  have q0 := cell_later hbl q0
  have q1 := cell_later hbl q1
  have B0 := Lib.hid b0
  have hsz2 : w.heap.size + 1 + 1 < w2.heap.size := B2.out.lt
  have HY : Hid (isK cs k = true → findK cs k < cs.length ∧ putC cs (k, v) = cs.set (findK cs k) (k, v)) := fun h => ⟨isK_lt h, putC_yes (c := (k, v)) h⟩
  have HN : Hid (isK cs k = false → putC cs (k, v) = cs.take (findK cs k) ++ (k, v) :: cs.drop (findK cs k)) := fun h => putC_no (c := (k, v)) h
  have HPL : Hid ((putC cs (k, v)).length ≤ cs.length + 1) := by have := putC_len cs (k, v); rw [Hid]; omega
  have hK := findK_le cs k
  generalize findK cs k = K at *
  generalize isK cs k = Y at *
  generalize hOut : putC cs (k, v) = out at *
  have HPC := Lib.hid hOut
  clear hOut
  clear hbl HR1 HQ1 hri
  go_wp2_with fail
  refine (pclone_any _ _ cs w2 (by omega) HR2.out).mono ?_
  rintro e w3 ⟨A3, c3, rfl, hco, hbl⟩
  have HC := Lib.hid hco
  have HB3 := Lib.hid hbl
  have b0 := b0.later hbl
  have b1 := b1.later hbl
  have p0 := cell_later hbl p0
  have p1 := cell_later hbl p1
  have p2 := cell_later hbl p2
  have q0 := cell_later hbl q0
  have q1 := cell_later hbl q1
  have h32 := hbl.size
  clear hbl hco
  go_upto_if 22 with (fail)
  go_cut [8] (fun lv wx => Hid (Co wx w2.heap.size lv out) ∧ Hid (Below w2.heap.size w2 wx))
  case first =>
    cases Y with
    | true =>
      obtain ⟨hKl, ho⟩ := HY.out rfl
      obtain ⟨g, cap, hv3, hBg, hlc3, hcell, hfz⟩ := HC.out.at (by omega)
      injection hv3 with hA3 _ hc3
      subst hA3 hc3
      obtain ⟨⟨y1, hy1⟩, ⟨y2, hy2⟩⟩ := hcell K hKl
      have hf1 := hfz (K * 2)
      have hf2 := hfz (K * 2 + 1)
      have HS : Hid (Co ((w3.setCell ⟨g, K * 2, none⟩ (.string (st k))).setCell ⟨g, K * 2 + 1, none⟩ (.string (st v))) w2.heap.size (.slice (some ⟨g, 0, none⟩) cs.length c3) out) := by rw [Hid, ho]; exact HC.out.set hKl (k, v)
      have HBS := Lib.hid ((HB3.out.setCell (p := ⟨g, K * 2, none⟩) hBg (.string (st k))).setCell (p := ⟨g, K * 2 + 1, none⟩) hBg (.string (st v)))
      have hk0 : (0 : Int) ≤ (K : Int) := by omega
      have hk1 : (K : Int) < (cs.length : Int) := by omega
      have hgn : ¬ w.heap.size + 1 = g := by omega
      clear hcell hfz ho HC HB3
      go_wp2_with fail
      go_meet
      exact ⟨HS, HBS⟩
    | false =>
      have ho := HN.out rfl
      have HNB := Lib.hid (Blk.new w3 47 #[.string (st k), .string (st v)])
      have HI := pinsert_any w2.heap.size A3 c3 cs (k, v) K w3.heap.size (w3.alloc (.cells #[.string (st k), .string (st v)] 47)) (HC.out.later ((Below.refl _ _).alloc (Nat.le_refl _) _)) HNB.out (fun g hg => by
        obtain ⟨-, hd⟩ := HC.out
        rcases hd with ⟨h2, h3⟩ | ⟨g', cap', cur, hv, hBg, hgg, -⟩
        · injection h2 with h2; rw [h2] at hg; cases hg
        · injection hv with h4
          rw [h4] at hg
          injection hg with hg
          injection hg with hg
          have := lt_of_block hgg
          omega) hK (by omega) (by simp; omega)
      have HIH := Lib.hid HI
      have HOE := Lib.hid ho
      have HBA := Lib.hid (HB3.out.alloc h32 (.cells #[.string (st k), .string (st v)] 47))
      clear HI ho
      go_wp2_with fail
      refine HIH.out.mono ?_
      rintro e w4 ⟨A4, c4, rfl, hco4, hbl4⟩
      have HC4 : Hid (Co w4 w2.heap.size (.slice A4 (cs.length + 1) c4) out) := by rw [Hid, HOE.out]; exact hco4
      have HB4 := Lib.hid (HBA.out.trans hbl4)
      clear hco4 hbl4
      go_wp2_with fail
      go_meet
      exact ⟨HC4, HB4⟩
  case rest =>
    obtain ⟨HC, HB⟩ := hcut
    have hcs := HC.out.cs
    obtain ⟨A5, c5, rfl, -⟩ := hcs.at
    have HCS := Lib.hid hcs
    clear hcs
    generalize wc = w5 at *
    have hb := HB.out
    clear p0 p1 p2 q0 q1 b0 b1 HC
    have b0 := B0.out.later hb
    have B2 := Lib.hid (B2.out.later hb)
    have HQ := Lib.hid (HQ2.out.trans (hb.mono HQ2.out.size))
    have p0 : (w5).cell? ⟨w.heap.size, 0, none⟩ = some (.bool leaf) := b0.cell 0
    have p1 : (w5).cell? ⟨w.heap.size, 1, none⟩ = some (.int .i64 next) := b0.cell 1
    have p2 : (w5).cell? ⟨w.heap.size, 2, none⟩ = some (.slice A cs.length c) := b0.cell 2
    clear hb
    go_wp2_with fail
    refine (with_any _ leaf next _ _ out w5 HCS.out).mono ?_
    rintro e w6 ⟨A6, c6, rfl, hcs6, hbl⟩
    have HQ6 := Lib.hid (HQ.out.trans (hbl.mono HQ.out.size))
    have hb := B2.out.later hbl
    have d0 : (w6).cell? ⟨w.heap.size + 1 + 1, 0, none⟩ = some (.bool false) := hb.cell 0
    have d1 : (w6).cell? ⟨w.heap.size + 1 + 1, 1, none⟩ = some (.int .i64 0) := hb.cell 1
    have d2 : (w6).cell? ⟨w.heap.size + 1 + 1, 2, none⟩ = some (.slice none 0 0) := hb.cell 2
    have df0 : (w6).frozen? ⟨w.heap.size + 1 + 1, 0, none⟩ = false := hb.free 0
    have df1 : (w6).frozen? ⟨w.heap.size + 1 + 1, 1, none⟩ = false := hb.free 1
    have df2 : (w6).frozen? ⟨w.heap.size + 1 + 1, 2, none⟩ = false := hb.free 2
    have HE := Lib.hid (hb.put3 (.bool leaf) (.int .i64 next) (.slice A6 out.length c6))
    have HQ7 := Lib.hid (below_put3 HQ6.out (show w.heap.size ≤ w.heap.size + 1 + 1 by omega) (.bool leaf) (.int .i64 next) (.slice A6 out.length c6))
    have h62 := hbl.size
    have h52 := HB.out.size
    have HP : Hid (Cs (fun b => w.heap.size ≤ b ∧ b < w6.heap.size) (((w6.setCell ⟨w.heap.size + 1 + 1, 0, none⟩ (.bool leaf)).setCell ⟨w.heap.size + 1 + 1, 1, none⟩ (.int .i64 next)).setCell ⟨w.heap.size + 1 + 1, 2, none⟩ (.slice A6 out.length c6)) (.slice A6 out.length c6) out) := by
      have hn : ∀ b, ((w2.heap.size ≤ b ∧ b < w5.heap.size) ∧ b < w5.heap.size) → w.heap.size + 1 + 1 < b := fun b hb => by omega
      refine Sl.more (Sl.setCell (Sl.setCell (Sl.setCell hcs6 (p := ⟨w.heap.size + 1 + 1, 0, none⟩) (fun h => Nat.lt_irrefl _ (hn _ h)) _) (p := ⟨w.heap.size + 1 + 1, 1, none⟩) (fun h => Nat.lt_irrefl _ (hn _ h)) _) (p := ⟨w.heap.size + 1 + 1, 2, none⟩) (fun h => Nat.lt_irrefl _ (hn _ h)) _) fun b hb => ?_
      have := hn b hb
      omega
    clear hbl hb hcs6 B2
    go_wp2_with fail
    exact bodyPost_ret (results_cell2 rfl _ _ (w.heap.size + 1 + 1) rfl HE.out pageTy) rfl ⟨_, rfl, by rw [HPC.out]; exact ⟨A6, c6, rfl, Sl.more HP.out fun b hb => ⟨hb.1, by simpa using hb.2⟩⟩, HQ7.out⟩
end Go.Proofs.YtlidbgidbpaenaaDoor
