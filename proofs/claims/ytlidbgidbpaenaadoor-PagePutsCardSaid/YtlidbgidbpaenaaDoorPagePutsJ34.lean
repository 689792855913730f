/- What the proof of PagePuts needs, part 34. -/
import Derived.Test.YtlidbgidbpaenaaDoorPagePutsJ27
import Derived.Test.YtlidbgidbpaenaaDoorPagePutsJ33
import Derived.Deep.RegionHeld3

namespace Go.Proofs.YtlidbgidbpaenaaDoor
open Go Go.RowKit
set_option linter.unusedVariables false

theorem pclone_row (S : Nat → Prop) (v0 : Value) (cs : List Cel) (w : World) (hl : cs.length ≤ 1000000) (hr : Cs S w v0 cs) (h0 : 0 < cs.length) :
    Calls Tryd.prog 55 #[v0] w fun e w' => ∃ g cap cur, e = .returned (.slice (some ⟨g, 0, none⟩) cs.length cap) ∧ w.heap.size ≤ g ∧ w'.heap[g]? = some (.cells cur 47 (0, 0)) ∧ cs.length ≤ cap ∧ cap ≤ maxLen ∧ cur.size = cap * 2 ∧ cur.toList.take (cs.length * 2) = ccs cs ∧ Below w.heap.size w w' := by
  refine (pclone_any S v0 cs w hl hr).mono ?_
  rintro e w' ⟨A, c, rfl, ⟨h1, h2⟩, hb⟩
  rcases h2 with ⟨h2, h3⟩ | ⟨g, cap, cur, hv, hBg, hg, hnc, hcm, hcs, hct⟩
  · omega
  · injection hv with h4 _ h5
    subst h4 h5
    exact ⟨g, c, cur, rfl, hBg, hg, hnc, hcm, hcs, hct, hb⟩

set_option maxHeartbeats 2000000 in
set_option maxRecDepth 100000 in
theorem premove_no (S : Nat → Prop) (leaf : Bool) (next : Int) (v0 : Value) (cs : List Cel) (k : List UInt8) (w : World) (hl : cs.length ≤ 100000) (hr : Cs S w v0 cs) (hri : RisesP cs) (hk : isK cs k = false) :
    Calls Tryd.prog 30 #[.agg #[.bool leaf, .int .i64 next, v0], .string (st k)] w fun e w' => e = .returned (.tuple #[.agg #[.bool false, .int .i64 0, .slice none 0 0], .int .i64 102]) ∧ Below w.heap.size w w' := by
  have HR := Lib.hid hr.lt
  obtain ⟨A, c, rfl, hlc, hcm, hA0, _⟩ := hr.at
  have HKI := Lib.hid hk
  clear hr hk
  have hb1 : Blk ((w.alloc (.cells #[.bool leaf, .int .i64 next, .slice A cs.length c] 24)).alloc (.cells #[.bool false, .int .i64 0, .slice none 0 0] 24)) (w.heap.size + 1) 24 #[.bool false, .int .i64 0, .slice none 0 0] := Blk.new1 _ _ _ _
  have hq : Below w.heap.size w ((w.alloc (.cells #[.bool leaf, .int .i64 next, .slice A cs.length c] 24)).alloc (.cells #[.bool false, .int .i64 0, .slice none 0 0] 24)) := ((Below.refl _ _).alloc (Nat.le_refl _) _).alloc (by simp) _
  go_enter Tryd.func30, Tryd.ntmps30
  go_wp2_with fail
  generalize hW : ((w.alloc (.cells #[.bool leaf, .int .i64 next, .slice A cs.length c] 24)).alloc (.cells #[.bool false, .int .i64 0, .slice none 0 0] 24)) = W at *
  clear hW
  refine (pfind_any _ leaf next _ cs k W (by omega) (HR.out.up hq) hri).mono ?_
  rintro e w1 ⟨rfl, hbl⟩
  rw [HKI.out]
  have hq2 := hq.trans (hbl.mono hq.size)
  have hb := hb1.later hbl
  have d0 : (w1).cell? ⟨w.heap.size + 1, 0, none⟩ = some (.bool false) := hb.cell 0
  have d1 : (w1).cell? ⟨w.heap.size + 1, 1, none⟩ = some (.int .i64 0) := hb.cell 1
  have d2 : (w1).cell? ⟨w.heap.size + 1, 2, none⟩ = some (.slice none 0 0) := hb.cell 2
  have df0 : (w1).frozen? ⟨w.heap.size + 1, 0, none⟩ = false := hb.free 0
  have df1 : (w1).frozen? ⟨w.heap.size + 1, 1, none⟩ = false := hb.free 1
  have df2 : (w1).frozen? ⟨w.heap.size + 1, 2, none⟩ = false := hb.free 2
  have HB := Lib.hid (hb.put3 (.bool false) (.int .i64 0) (.slice none 0 0))
  have HQ := Lib.hid (below_put3 hq2 (show w.heap.size ≤ w.heap.size + 1 by omega) (.bool false) (.int .i64 0) (.slice none 0 0))
  clear hb1 hbl hb hq hq2
  generalize findK cs k = K at *
  go_wp2_with fail
  exact bodyPost_ret (results_cell2 rfl _ _ (w.heap.size + 1) rfl HB.out pageTy) rfl ⟨rfl, HQ.out⟩

set_option maxHeartbeats 4000000 in
set_option maxRecDepth 100000 in
theorem premove_any (S : Nat → Prop) (leaf : Bool) (next : Int) (v0 : Value) (cs : List Cel) (k : List UInt8) (w : World) (hl : cs.length ≤ 100000) (hr : Cs S w v0 cs) (hri : RisesP cs) (hk : isK cs k = true) :
    Calls Tryd.prog 30 #[.agg #[.bool leaf, .int .i64 next, v0], .string (st k)] w fun e w' => ∃ vq, e = .returned (.tuple #[vq, .int .i64 0]) ∧ PgIs w.heap.size w' vq leaf next (delC cs k) ∧ Below w.heap.size w w' := by
  have HR := Lib.hid hr.lt
  obtain ⟨A, c, rfl, hlc, hcm, hA0, _⟩ := hr.at
  have HKI := Lib.hid hk
  have HDL : Hid (delC cs k = cs.take (findK cs k) ++ cs.drop (findK cs k + 1)) := delC_yes hk
  have hKl := isK_lt hk
  clear hr hk
  have hb0 : Blk ((w.alloc (.cells #[.bool leaf, .int .i64 next, .slice A cs.length c] 24)).alloc (.cells #[.bool false, .int .i64 0, .slice none 0 0] 24)) w.heap.size 24 #[.bool leaf, .int .i64 next, .slice A cs.length c] := (Blk.new _ _ _).alloc _
  have hb1 : Blk ((w.alloc (.cells #[.bool leaf, .int .i64 next, .slice A cs.length c] 24)).alloc (.cells #[.bool false, .int .i64 0, .slice none 0 0] 24)) (w.heap.size + 1) 24 #[.bool false, .int .i64 0, .slice none 0 0] := Blk.new1 _ _ _ _
  have hq : Below w.heap.size w ((w.alloc (.cells #[.bool leaf, .int .i64 next, .slice A cs.length c] 24)).alloc (.cells #[.bool false, .int .i64 0, .slice none 0 0] 24)) := ((Below.refl _ _).alloc (Nat.le_refl _) _).alloc (by simp) _
  go_enter Tryd.func30, Tryd.ntmps30
  go_wp2_with fail
  generalize hW : ((w.alloc (.cells #[.bool leaf, .int .i64 next, .slice A cs.length c] 24)).alloc (.cells #[.bool false, .int .i64 0, .slice none 0 0] 24)) = W at *
  clear hW
  refine (pfind_any _ leaf next _ cs k W (by omega) (HR.out.up hq) hri).mono ?_
  rintro e wf ⟨rfl, hbl⟩
  rw [HKI.out]
  have HQ := Lib.hid (hq.trans (hbl.mono hq.size))
  have HRf := Lib.hid (HR.out.up HQ.out)
  have b0 := hb0.later hbl
  have HB1 := Lib.hid (hb1.later hbl)
  have hbp : w.heap.size + 1 < wf.heap.size := HB1.out.lt
  have p0 : (wf).cell? ⟨w.heap.size, 0, none⟩ = some (.bool leaf) := b0.cell 0
  have p1 : (wf).cell? ⟨w.heap.size, 1, none⟩ = some (.int .i64 next) := b0.cell 1
  have p2 : (wf).cell? ⟨w.heap.size, 2, none⟩ = some (.slice A cs.length c) := b0.cell 2
  clear hb0 hb1 hbl hq b0 hri HR
  generalize hKe : findK cs k = K at *
  have HKE := Lib.hid hKe
  clear hKe
  have hw1 : IntKind.i64.wrap ((K : Int) + 1) = (K : Int) + 1 := IntWalk.i64_in _ (by omega)
  obtain ⟨out, hout⟩ : ∃ out, cs.take K ++ cs.drop (K + 1) = out := ⟨_, rfl⟩
  have HO := Lib.hid hout
  clear hout
  go_upto_region 4 with (fail)
  go_region_held3 (fun w' => w'.cell? ⟨w.heap.size, 0, none⟩ = some (.bool leaf) ∧ w'.cell? ⟨w.heap.size, 1, none⟩ = some (.int .i64 next) ∧ w'.cell? ⟨w.heap.size, 2, none⟩ = some (.slice A cs.length c))
    (first
      | go_keep
      | (go_split_ands
         refine ⟨?_, ?_, ?_⟩ <;> (refine (hbz _).trans ?_; assumption)))
    ((first
      | (go_at_call 55; refine (pclone_row (fun b => b < wf.heap.size) _ cs _ (by omega) (by exact HRf.out) (by omega)).mono ?_; rintro e w6 ⟨g, cap, cur, rfl, hBg, hg, hnc, hcm6, hcs6, hct6, hb6⟩; have hq6 : Below wf.heap.size wf w6 := ⟨hb6.os, hb6.tape, hb6.output, hb6.size, hb6.block⟩; have hbz : ∀ o, w6.cell? ⟨w.heap.size, o, none⟩ = wf.cell? ⟨w.heap.size, o, none⟩ := fun o => hq6.cell (p := ⟨w.heap.size, o, none⟩) (Nat.lt_of_succ_lt hbp))
      | (go_at_call 59; refine (pdelete_any wf.heap.size g cap cur cs K _ hBg (by exact hg) hcm6 hcs6 hct6 hnc hKl (by omega)).mono ?_; rintro e w7 ⟨rfl, hco7, hb7⟩; rw [HO.out] at hco7; have hz7 : Below wf.heap.size w6 w7 := ⟨hb7.os, hb7.tape, hb7.output, hb7.size, hb7.block⟩; have hq7 : Below wf.heap.size wf w7 := hq6.trans hz7; have hbz : ∀ o, w7.cell? ⟨w.heap.size, o, none⟩ = w6.cell? ⟨w.heap.size, o, none⟩ := fun o => hz7.cell (p := ⟨w.heap.size, o, none⟩) (Nat.lt_of_succ_lt hbp))
      | (go_at_call 54; refine (with_any (fun b => wf.heap.size ≤ b ∧ b < w7.heap.size) leaf next _ _ out _ (by exact hco7.cs)).mono ?_; rintro e w9 ⟨A9, c9, rfl, hcs9, hb9⟩; have hz9 : Below w7.heap.size w7 w9 := ⟨hb9.os, hb9.tape, hb9.output, hb9.size, hb9.block⟩; have hq9 : Below wf.heap.size wf w9 := hq7.trans (hz9.mono hq7.size); have hbz : ∀ o, w9.cell? ⟨w.heap.size, o, none⟩ = w7.cell? ⟨w.heap.size, o, none⟩ := fun o => hz9.cell (p := ⟨w.heap.size, o, none⟩) (Nat.lt_of_lt_of_le (Nat.lt_of_succ_lt hbp) hq7.size); have k1 := HB1.out.later hq9; have d0 : w9.cell? ⟨w.heap.size + 1, 0, none⟩ = some (.bool false) := k1.cell 0; have d1 : w9.cell? ⟨w.heap.size + 1, 1, none⟩ = some (.int .i64 0) := k1.cell 1; have d2 : w9.cell? ⟨w.heap.size + 1, 2, none⟩ = some (.slice none 0 0) := k1.cell 2; have f0 := k1.free 0; have f1 := k1.free 1; have f2 := k1.free 2)))
  go_wp2_with fail
  have HBL := k1.put3 (.bool leaf) (.int .i64 next) (.slice A9 out.length c9)
  have hqw := HQ.out.trans (hq9.mono HQ.out.size)
  have HQ7 := below_put3 hqw (show w.heap.size ≤ w.heap.size + 1 by omega) (.bool leaf) (.int .i64 next) (.slice A9 out.length c9)
  have h97 := hz9.size
  have HP : Cs (fun b => w.heap.size ≤ b ∧ b < w9.heap.size) (((w9.setCell ⟨w.heap.size + 1, 0, none⟩ (.bool leaf)).setCell ⟨w.heap.size + 1, 1, none⟩ (.int .i64 next)).setCell ⟨w.heap.size + 1, 2, none⟩ (.slice A9 out.length c9)) (.slice A9 out.length c9) out := by
    have hn : ∀ b, ((wf.heap.size ≤ b ∧ b < w7.heap.size) ∧ b < w7.heap.size) → w.heap.size + 1 < b := fun b hb => by omega
    refine Sl.more (Sl.setCell (Sl.setCell (Sl.setCell hcs9 (p := ⟨w.heap.size + 1, 0, none⟩) (fun h => Nat.lt_irrefl _ (hn _ h)) _) (p := ⟨w.heap.size + 1, 1, none⟩) (fun h => Nat.lt_irrefl _ (hn _ h)) _) (p := ⟨w.heap.size + 1, 2, none⟩) (fun h => Nat.lt_irrefl _ (hn _ h)) _) fun b hb => ?_
    have := hn b hb
    omega
  exact bodyPost_ret (results_cell2 rfl _ _ (w.heap.size + 1) rfl HBL pageTy) rfl ⟨_, rfl, by rw [HDL.out, HO.out]; exact ⟨A9, c9, rfl, Sl.more HP fun b hb => ⟨hb.1, by simpa using hb.2⟩⟩, HQ7⟩
end Go.Proofs.YtlidbgidbpaenaaDoor
