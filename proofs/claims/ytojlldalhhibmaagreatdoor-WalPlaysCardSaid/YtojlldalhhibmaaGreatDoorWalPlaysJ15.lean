/- What the proof of WalPlays needs, part 15. -/
import Derived.Test.YtojlldalhhibmaaGreatDoorWalPlaysJ14
import Derived.Deep.RegionLaw
import Derived.Deep.Cut
import Derived.Deep.DeepCutAuto
import Derived.StillTailTactics

namespace Go.Proofs.YtojlldalhhibmaaGreatDoor
open Go Go.RowKit
set_option linter.unusedVariables false

set_option maxHeartbeats 40000000 in
set_option maxRecDepth 100000 in
theorem refWAppend_any (v : Value) (l : Wl) (t : List UInt8) (w : World) (hr : RLg w v l) (ok : l.Ok) (ht : t.length ≤ 1099511627776) (hp : l.D.pend.length ≤ 800000) :
    Calls Tryz.prog 11 #[v, .string (st t)] w fun e w' => ∃ v', e = .returned (.tuple #[v', .int .u64 ((wAppend l t).2.1 : Int), .int .i64 ((wAppend l t).2.2 : Int)]) ∧ RLg w' v' (wAppend l t).1 ∧ Below w.heap.size w w' := by
  obtain ⟨A1, c1, A2, c2, A3, c3, A4, c4, rfl, HD, HG⟩ := hr
  have S0 := Lib.hid (Lf.start (v := .int .i64 0) HD.out HG.out zlog)
  have OLD : Hid (Sl (fun b => kindAt w b = some (some 89) ∧ b < w.heap.size) w 3 (.slice A4 l.live.length c4) l.live.length (sgcs l.live)) := Sl.more HG.out fun b h => ⟨h, kind_lt h⟩
  have OK := Lib.hid ok
  have hsz : l.size ≤ 64 := ok.s64
  have hsl := ok.slen
  have hln := Lib.hid ok.len
  have HP := Lib.hid hp
  obtain ⟨q, hq⟩ : ∃ q, q = (l.last + 1) % U64 := ⟨_, rfl⟩
  have hwr : IntKind.u64.wrap ((l.last : Int) + 1) = (q : Int) := by have := u64_add l.last 1; rw [hq]; simpa using this
  have hqU : q < U64 := by rw [hq]; exact Nat.mod_lt _ (by unfold U64; omega)
  have HQ := Lib.hid hq
  have HQU := Lib.hid hqU
  obtain ⟨head, hhd⟩ : ∃ head, head = recB q titleB := ⟨_, rfl⟩
  obtain ⟨b, hbb⟩ : ∃ b, b = recB q t := ⟨_, rfl⟩
  have HHD := Lib.hid hhd
  have HBB := Lib.hid hbb
  have htit : Hid (st titleB = ⟨#[115, 101, 103, 109, 101, 110, 116]⟩) := rfl
  have hvh : refRPutV q titleB = .tuple #[.string (st head), .int .i64 0] := by unfold refRPutV; rw [if_neg (by decide), hhd]
  have HVH := Lib.hid hvh
  clear ok hp HD HG hq hqU hhd hbb hvh
  unfold zlog at S0
  unfold rlC at *
  go_enter Tryz.func11, Tryz.ntmps11
  go_upto_region 1 with (fail)
  generalize hwa : World.alloc (World.alloc w _) _ = wa at *
  clear hwa
  have d0 : (wa).cell? ⟨w.heap.size, 0, none⟩ = some (.int .i64 l.D.size) := S0.out.v.blk.cell 0
  have d1 : (wa).cell? ⟨w.heap.size, 1, none⟩ = some (.int .i64 l.D.limit) := S0.out.v.blk.cell 1
  have d2 : (wa).cell? ⟨w.heap.size, 2, none⟩ = some (.slice A1 l.D.nv c1) := S0.out.v.blk.cell 2
  have d3 : (wa).cell? ⟨w.heap.size, 3, none⟩ = some (.slice A2 l.D.ng c2) := S0.out.v.blk.cell 3
  have d4 : (wa).cell? ⟨w.heap.size, 4, none⟩ = some (.slice A3 l.D.pend.length c3) := S0.out.v.blk.cell 4
  have d5 : (wa).cell? ⟨w.heap.size, 5, none⟩ = some (.int .i64 l.a) := S0.out.v.blk.cell 5
  have d6 : (wa).cell? ⟨w.heap.size, 6, none⟩ = some (.int .i64 (l.n : Int)) := S0.out.v.blk.cell 6
  have d7 : (wa).cell? ⟨w.heap.size, 7, none⟩ = some (.int .i64 (l.size : Int)) := S0.out.v.blk.cell 7
  have d8 : (wa).cell? ⟨w.heap.size, 8, none⟩ = some (.slice A4 l.live.length c4) := S0.out.v.blk.cell 8
  have d9 : (wa).cell? ⟨w.heap.size, 9, none⟩ = some (.string (st l.stream)) := S0.out.v.blk.cell 9
  have d10 : (wa).cell? ⟨w.heap.size, 10, none⟩ = some (.int .u64 (l.last : Int)) := S0.out.v.blk.cell 10
  have d11 : (wa).cell? ⟨w.heap.size, 11, none⟩ = some (.int .u64 (l.synced : Int)) := S0.out.v.blk.cell 11
  by_cases hlong : 32768 < t.length
  · have E := Lib.hid (wAppend_long HQ.out HHD.out HBB.out (.inl hlong))
    have hvb : refRPutV q t = .tuple #[.string (st []), .int .i64 70] := by unfold refRPutV; rw [if_pos hlong]
    clear hlong
    go_wp2_with fail
    refine (refRPut_any q t wa HQU.out ht).mono ?_
    rintro e w1 ⟨rfl, q1⟩
    rw [hvb]
    have S1 := Lib.hid (S0.out.to q1)
    clear q1 hvb S0
    go_wp2_with fail
    rw [← htit.out]
    refine (refRPut_any q titleB w1 HQU.out (by decide)).mono ?_
    rintro e w2 ⟨rfl, q2⟩
    rw [HVH.out]
    have S2 := Lib.hid (S1.out.to q2)
    clear q2 S1 d0 d1 d2 d3 d4 d5 d6 d7 d8 d9 d10 d11
    have d0 : (w2).cell? ⟨w.heap.size, 0, none⟩ = some (.int .i64 l.D.size) := S2.out.v.blk.cell 0
    have d1 : (w2).cell? ⟨w.heap.size, 1, none⟩ = some (.int .i64 l.D.limit) := S2.out.v.blk.cell 1
    have d2 : (w2).cell? ⟨w.heap.size, 2, none⟩ = some (.slice A1 l.D.nv c1) := S2.out.v.blk.cell 2
    have d3 : (w2).cell? ⟨w.heap.size, 3, none⟩ = some (.slice A2 l.D.ng c2) := S2.out.v.blk.cell 3
    have d4 : (w2).cell? ⟨w.heap.size, 4, none⟩ = some (.slice A3 l.D.pend.length c3) := S2.out.v.blk.cell 4
    have d5 : (w2).cell? ⟨w.heap.size, 5, none⟩ = some (.int .i64 l.a) := S2.out.v.blk.cell 5
    have d6 : (w2).cell? ⟨w.heap.size, 6, none⟩ = some (.int .i64 (l.n : Int)) := S2.out.v.blk.cell 6
    have d7 : (w2).cell? ⟨w.heap.size, 7, none⟩ = some (.int .i64 (l.size : Int)) := S2.out.v.blk.cell 7
    have d8 : (w2).cell? ⟨w.heap.size, 8, none⟩ = some (.slice A4 l.live.length c4) := S2.out.v.blk.cell 8
    have d9 : (w2).cell? ⟨w.heap.size, 9, none⟩ = some (.string (st l.stream)) := S2.out.v.blk.cell 9
    have d10 : (w2).cell? ⟨w.heap.size, 10, none⟩ = some (.int .u64 (l.last : Int)) := S2.out.v.blk.cell 10
    have d11 : (w2).cell? ⟨w.heap.size, 11, none⟩ = some (.int .u64 (l.synced : Int)) := S2.out.v.blk.cell 11
    have df0 : (w2).frozen? ⟨w.heap.size, 0, none⟩ = false := S2.out.v.blk.free 0
    have df1 : (w2).frozen? ⟨w.heap.size, 1, none⟩ = false := S2.out.v.blk.free 1
    have df2 : (w2).frozen? ⟨w.heap.size, 2, none⟩ = false := S2.out.v.blk.free 2
    have df3 : (w2).frozen? ⟨w.heap.size, 3, none⟩ = false := S2.out.v.blk.free 3
    have df4 : (w2).frozen? ⟨w.heap.size, 4, none⟩ = false := S2.out.v.blk.free 4
    have df5 : (w2).frozen? ⟨w.heap.size, 5, none⟩ = false := S2.out.v.blk.free 5
    have df6 : (w2).frozen? ⟨w.heap.size, 6, none⟩ = false := S2.out.v.blk.free 6
    have df7 : (w2).frozen? ⟨w.heap.size, 7, none⟩ = false := S2.out.v.blk.free 7
    have df8 : (w2).frozen? ⟨w.heap.size, 8, none⟩ = false := S2.out.v.blk.free 8
    have df9 : (w2).frozen? ⟨w.heap.size, 9, none⟩ = false := S2.out.v.blk.free 9
    have df10 : (w2).frozen? ⟨w.heap.size, 10, none⟩ = false := S2.out.v.blk.free 10
    have df11 : (w2).frozen? ⟨w.heap.size, 11, none⟩ = false := S2.out.v.blk.free 11
    have r0 : (w2).cell? ⟨w.heap.size + 1, 0, none⟩ = some (.int .i64 0) := S2.out.z.cell 0
    have r1 : (w2).cell? ⟨w.heap.size + 1, 1, none⟩ = some (.int .i64 0) := S2.out.z.cell 1
    have r2 : (w2).cell? ⟨w.heap.size + 1, 2, none⟩ = some (.slice none 0 0) := S2.out.z.cell 2
    have r3 : (w2).cell? ⟨w.heap.size + 1, 3, none⟩ = some (.slice none 0 0) := S2.out.z.cell 3
    have r4 : (w2).cell? ⟨w.heap.size + 1, 4, none⟩ = some (.slice none 0 0) := S2.out.z.cell 4
    have r5 : (w2).cell? ⟨w.heap.size + 1, 5, none⟩ = some (.int .i64 0) := S2.out.z.cell 5
    have r6 : (w2).cell? ⟨w.heap.size + 1, 6, none⟩ = some (.int .i64 0) := S2.out.z.cell 6
    have r7 : (w2).cell? ⟨w.heap.size + 1, 7, none⟩ = some (.int .i64 0) := S2.out.z.cell 7
    have r8 : (w2).cell? ⟨w.heap.size + 1, 8, none⟩ = some (.slice none 0 0) := S2.out.z.cell 8
    have r9 : (w2).cell? ⟨w.heap.size + 1, 9, none⟩ = some (.string ⟨#[]⟩) := S2.out.z.cell 9
    have r10 : (w2).cell? ⟨w.heap.size + 1, 10, none⟩ = some (.int .u64 0) := S2.out.z.cell 10
    have r11 : (w2).cell? ⟨w.heap.size + 1, 11, none⟩ = some (.int .u64 0) := S2.out.z.cell 11
    have rf0 : (w2).frozen? ⟨w.heap.size + 1, 0, none⟩ = false := S2.out.z.free 0
    have rf1 : (w2).frozen? ⟨w.heap.size + 1, 1, none⟩ = false := S2.out.z.free 1
    have rf2 : (w2).frozen? ⟨w.heap.size + 1, 2, none⟩ = false := S2.out.z.free 2
    have rf3 : (w2).frozen? ⟨w.heap.size + 1, 3, none⟩ = false := S2.out.z.free 3
    have rf4 : (w2).frozen? ⟨w.heap.size + 1, 4, none⟩ = false := S2.out.z.free 4
    have rf5 : (w2).frozen? ⟨w.heap.size + 1, 5, none⟩ = false := S2.out.z.free 5
    have rf6 : (w2).frozen? ⟨w.heap.size + 1, 6, none⟩ = false := S2.out.z.free 6
    have rf7 : (w2).frozen? ⟨w.heap.size + 1, 7, none⟩ = false := S2.out.z.free 7
    have rf8 : (w2).frozen? ⟨w.heap.size + 1, 8, none⟩ = false := S2.out.z.free 8
    have rf9 : (w2).frozen? ⟨w.heap.size + 1, 9, none⟩ = false := S2.out.z.free 9
    have rf10 : (w2).frozen? ⟨w.heap.size + 1, 10, none⟩ = false := S2.out.z.free 10
    have rf11 : (w2).frozen? ⟨w.heap.size + 1, 11, none⟩ = false := S2.out.z.free 11
    have HF := Lib.hid (S2.out.ret S2.out.v.val)
    unfold rlC at HF
    go_wp2_with fail
    rw [E.out]
    exact bodyPost_ret (results_cell3 rfl _ _ (w.heap.size + 1) rfl HF.out.1 logTy) rfl ⟨_, rfl, HF.out.2.1, HF.out.2.2⟩
  · have hvb : refRPutV q t = .tuple #[.string (st b), .int .i64 0] := by unfold refRPutV; rw [if_neg hlong, HBB.out]
    go_wp2_with fail
    refine (refRPut_any q t wa HQU.out ht).mono ?_
    rintro e w1 ⟨rfl, q1⟩
    rw [hvb]
    have S1 := Lib.hid (S0.out.to q1)
    have O1 := Lib.hid (old_keep OLD.out (w2 := w1) fun b h0 h1 => S1.out.below.block b h1)
    clear q1 hvb S0 OLD
    go_wp2_with fail
    rw [← htit.out]
    refine (refRPut_any q titleB w1 HQU.out (by decide)).mono ?_
    rintro e w2 ⟨rfl, q2⟩
    rw [HVH.out]
    have S2 := Lib.hid (S1.out.to q2)
    have O2 := Lib.hid (old_keep O1.out (w2 := w2) fun b h0 h1 => q2.block b (kind_lt h0))
    clear q2 S1 O1 d0 d1 d2 d3 d4 d5 d6 d7 d8 d9 d10 d11
    have hbm : b.length ≤ 100000 := by
      rw [HBB.out, recB_len, recF]
      have h1 := varB_le10 HQU.out
      have h2 := varB_le10 (x := t.length) (by unfold U64; omega)
      simp only [List.length_append]
      omega
    have hhm : head.length ≤ 100000 := by
      rw [HHD.out, recB_len, recF]
      have h1 := varB_le10 HQU.out
      have h2 := varB_le10 (x := titleB.length) (by decide)
      have h3 : titleB.length = 7 := rfl
      simp only [List.length_append]
      omega
    by_cases hfit : 512 * l.size < head.length + b.length
    · have E := Lib.hid (wAppend_long HQ.out HHD.out HBB.out (.inr hfit))
      have hfit2 : 512 * (l.size : Int) < (head.length : Int) + (b.length : Int) := by omega
      clear hlong hfit
      have d0 : (w2).cell? ⟨w.heap.size, 0, none⟩ = some (.int .i64 l.D.size) := S2.out.v.blk.cell 0
      have d1 : (w2).cell? ⟨w.heap.size, 1, none⟩ = some (.int .i64 l.D.limit) := S2.out.v.blk.cell 1
      have d2 : (w2).cell? ⟨w.heap.size, 2, none⟩ = some (.slice A1 l.D.nv c1) := S2.out.v.blk.cell 2
      have d3 : (w2).cell? ⟨w.heap.size, 3, none⟩ = some (.slice A2 l.D.ng c2) := S2.out.v.blk.cell 3
      have d4 : (w2).cell? ⟨w.heap.size, 4, none⟩ = some (.slice A3 l.D.pend.length c3) := S2.out.v.blk.cell 4
      have d5 : (w2).cell? ⟨w.heap.size, 5, none⟩ = some (.int .i64 l.a) := S2.out.v.blk.cell 5
      have d6 : (w2).cell? ⟨w.heap.size, 6, none⟩ = some (.int .i64 (l.n : Int)) := S2.out.v.blk.cell 6
      have d7 : (w2).cell? ⟨w.heap.size, 7, none⟩ = some (.int .i64 (l.size : Int)) := S2.out.v.blk.cell 7
      have d8 : (w2).cell? ⟨w.heap.size, 8, none⟩ = some (.slice A4 l.live.length c4) := S2.out.v.blk.cell 8
      have d9 : (w2).cell? ⟨w.heap.size, 9, none⟩ = some (.string (st l.stream)) := S2.out.v.blk.cell 9
      have d10 : (w2).cell? ⟨w.heap.size, 10, none⟩ = some (.int .u64 (l.last : Int)) := S2.out.v.blk.cell 10
      have d11 : (w2).cell? ⟨w.heap.size, 11, none⟩ = some (.int .u64 (l.synced : Int)) := S2.out.v.blk.cell 11
      have df0 : (w2).frozen? ⟨w.heap.size, 0, none⟩ = false := S2.out.v.blk.free 0
      have df1 : (w2).frozen? ⟨w.heap.size, 1, none⟩ = false := S2.out.v.blk.free 1
      have df2 : (w2).frozen? ⟨w.heap.size, 2, none⟩ = false := S2.out.v.blk.free 2
      have df3 : (w2).frozen? ⟨w.heap.size, 3, none⟩ = false := S2.out.v.blk.free 3
      have df4 : (w2).frozen? ⟨w.heap.size, 4, none⟩ = false := S2.out.v.blk.free 4
      have df5 : (w2).frozen? ⟨w.heap.size, 5, none⟩ = false := S2.out.v.blk.free 5
      have df6 : (w2).frozen? ⟨w.heap.size, 6, none⟩ = false := S2.out.v.blk.free 6
      have df7 : (w2).frozen? ⟨w.heap.size, 7, none⟩ = false := S2.out.v.blk.free 7
      have df8 : (w2).frozen? ⟨w.heap.size, 8, none⟩ = false := S2.out.v.blk.free 8
      have df9 : (w2).frozen? ⟨w.heap.size, 9, none⟩ = false := S2.out.v.blk.free 9
      have df10 : (w2).frozen? ⟨w.heap.size, 10, none⟩ = false := S2.out.v.blk.free 10
      have df11 : (w2).frozen? ⟨w.heap.size, 11, none⟩ = false := S2.out.v.blk.free 11
      have r0 : (w2).cell? ⟨w.heap.size + 1, 0, none⟩ = some (.int .i64 0) := S2.out.z.cell 0
      have r1 : (w2).cell? ⟨w.heap.size + 1, 1, none⟩ = some (.int .i64 0) := S2.out.z.cell 1
      have r2 : (w2).cell? ⟨w.heap.size + 1, 2, none⟩ = some (.slice none 0 0) := S2.out.z.cell 2
      have r3 : (w2).cell? ⟨w.heap.size + 1, 3, none⟩ = some (.slice none 0 0) := S2.out.z.cell 3
      have r4 : (w2).cell? ⟨w.heap.size + 1, 4, none⟩ = some (.slice none 0 0) := S2.out.z.cell 4
      have r5 : (w2).cell? ⟨w.heap.size + 1, 5, none⟩ = some (.int .i64 0) := S2.out.z.cell 5
      have r6 : (w2).cell? ⟨w.heap.size + 1, 6, none⟩ = some (.int .i64 0) := S2.out.z.cell 6
      have r7 : (w2).cell? ⟨w.heap.size + 1, 7, none⟩ = some (.int .i64 0) := S2.out.z.cell 7
      have r8 : (w2).cell? ⟨w.heap.size + 1, 8, none⟩ = some (.slice none 0 0) := S2.out.z.cell 8
      have r9 : (w2).cell? ⟨w.heap.size + 1, 9, none⟩ = some (.string ⟨#[]⟩) := S2.out.z.cell 9
      have r10 : (w2).cell? ⟨w.heap.size + 1, 10, none⟩ = some (.int .u64 0) := S2.out.z.cell 10
      have r11 : (w2).cell? ⟨w.heap.size + 1, 11, none⟩ = some (.int .u64 0) := S2.out.z.cell 11
      have rf0 : (w2).frozen? ⟨w.heap.size + 1, 0, none⟩ = false := S2.out.z.free 0
      have rf1 : (w2).frozen? ⟨w.heap.size + 1, 1, none⟩ = false := S2.out.z.free 1
      have rf2 : (w2).frozen? ⟨w.heap.size + 1, 2, none⟩ = false := S2.out.z.free 2
      have rf3 : (w2).frozen? ⟨w.heap.size + 1, 3, none⟩ = false := S2.out.z.free 3
      have rf4 : (w2).frozen? ⟨w.heap.size + 1, 4, none⟩ = false := S2.out.z.free 4
      have rf5 : (w2).frozen? ⟨w.heap.size + 1, 5, none⟩ = false := S2.out.z.free 5
      have rf6 : (w2).frozen? ⟨w.heap.size + 1, 6, none⟩ = false := S2.out.z.free 6
      have rf7 : (w2).frozen? ⟨w.heap.size + 1, 7, none⟩ = false := S2.out.z.free 7
      have rf8 : (w2).frozen? ⟨w.heap.size + 1, 8, none⟩ = false := S2.out.z.free 8
      have rf9 : (w2).frozen? ⟨w.heap.size + 1, 9, none⟩ = false := S2.out.z.free 9
      have rf10 : (w2).frozen? ⟨w.heap.size + 1, 10, none⟩ = false := S2.out.z.free 10
      have rf11 : (w2).frozen? ⟨w.heap.size + 1, 11, none⟩ = false := S2.out.z.free 11
      have HF := Lib.hid (S2.out.ret S2.out.v.val)
      unfold rlC at HF
      go_wp2_with fail
      rw [E.out]
      exact bodyPost_ret (results_cell3 rfl _ _ (w.heap.size + 1) rfl HF.out.1 logTy) rfl ⟨_, rfl, HF.out.2.1, HF.out.2.2⟩
    · have HFIT : Hid (¬ (32768 < t.length ∨ 512 * l.size < head.length + b.length)) := fun h9 => h9.elim hlong hfit
      have hfit2 : ¬ 512 * (l.size : Int) < (head.length : Int) + (b.length : Int) := by omega
      have d0 : (w2).cell? ⟨w.heap.size, 0, none⟩ = some (.int .i64 l.D.size) := S2.out.v.blk.cell 0
      have d1 : (w2).cell? ⟨w.heap.size, 1, none⟩ = some (.int .i64 l.D.limit) := S2.out.v.blk.cell 1
      have d2 : (w2).cell? ⟨w.heap.size, 2, none⟩ = some (.slice A1 l.D.nv c1) := S2.out.v.blk.cell 2
      have d3 : (w2).cell? ⟨w.heap.size, 3, none⟩ = some (.slice A2 l.D.ng c2) := S2.out.v.blk.cell 3
      have d4 : (w2).cell? ⟨w.heap.size, 4, none⟩ = some (.slice A3 l.D.pend.length c3) := S2.out.v.blk.cell 4
      have d5 : (w2).cell? ⟨w.heap.size, 5, none⟩ = some (.int .i64 l.a) := S2.out.v.blk.cell 5
      have d6 : (w2).cell? ⟨w.heap.size, 6, none⟩ = some (.int .i64 (l.n : Int)) := S2.out.v.blk.cell 6
      have d7 : (w2).cell? ⟨w.heap.size, 7, none⟩ = some (.int .i64 (l.size : Int)) := S2.out.v.blk.cell 7
      have d8 : (w2).cell? ⟨w.heap.size, 8, none⟩ = some (.slice A4 l.live.length c4) := S2.out.v.blk.cell 8
      have d9 : (w2).cell? ⟨w.heap.size, 9, none⟩ = some (.string (st l.stream)) := S2.out.v.blk.cell 9
      have d10 : (w2).cell? ⟨w.heap.size, 10, none⟩ = some (.int .u64 (l.last : Int)) := S2.out.v.blk.cell 10
      have d11 : (w2).cell? ⟨w.heap.size, 11, none⟩ = some (.int .u64 (l.synced : Int)) := S2.out.v.blk.cell 11
      clear hfit hlong
      go_upto_region 7 with (fail)
      have GN : Hid (w.heap.size + 1 < w2.heap.size) := S2.out.z.lt
      have QA := (Below.refl w2.heap.size w2).alloc (Nat.le_refl _) (.cells #[.int .i64 l.D.size, .int .i64 l.D.limit, .slice A1 l.D.nv c1, .slice A2 l.D.ng c2, .slice A3 l.D.pend.length c3, .int .i64 l.a, .int .i64 (l.n : Int), .int .i64 (l.size : Int), .slice A4 l.live.length c4, .string (st l.stream), .int .u64 (l.last : Int), .int .u64 (l.synced : Int)] 43)
      have S3 := Lib.hid (S2.out.to QA)
      have O3 := Lib.hid (old_keep O2.out fun b h0 _ => QA.block b (kind_lt h0))
      have N3 : Hid (Lv _ w2.heap.size l A1 c1 A2 c2 A3 c3 A4 c4) := ⟨Blk.new w2 43 (rlC l A1 c1 A2 c2 A3 c3 A4 c4), S3.out.v.rd, S3.out.v.rg⟩
      unfold rlC at N3
      clear QA S2 O2 d0 d1 d2 d3 d4 d5 d6 d7 d8 d9 d10 d11
      generalize hw3 : w2.alloc _ = w3 at *
      clear hw3
      generalize w2.heap.size = gn at *
      have QB := (Below.refl w3.heap.size w3).alloc (Nat.le_refl _) (.cells #[] 89)
      have S4 := Lib.hid (S3.out.to QB)
      have O4 := Lib.hid (old_keep O3.out fun b h0 _ => QB.block b (kind_lt h0))
      have N4 := Lib.hid (N3.out.later QB)
      have W4 : Hid ((w3.alloc (.cells #[] 89)).ownsRow w.heap.size 89 3 (.slice (some ⟨w3.heap.size, 0, none⟩) 0 0) 0 []) := own_lower (World.ownsRow_made w3 #[] 0 (Nat.le_refl _) (by simp [maxLen]) (by simp)) S3.out.below.size
      have B4 := Lib.hid S4.out.below.size
      have d8 : (w3.alloc (.cells #[] 89)).cell? ⟨w.heap.size, 8, none⟩ = some (.slice A4 l.live.length c4) := S4.out.v.blk.cell 8
      have hlm := Nat.le_trans hln.out OK.out.n64
      have hM1 : Hid (0 + l.live.length ≤ maxLen) := by simp only [Hid, maxLen]; omega
      have hM2 : Hid ((0 + l.live.length) * 24 ≤ 140737488355328) := by rw [Hid]; omega
      clear QB S3 O3 N3
      go_upto_region 8 with (at_builtin; refine wpList_append_sl _ rfl (.tmp 52) (.tmp 54) elemRsg rfl W4.out O4.out rfl rfl (sgcs_one _) hM1.out hM2.out B4.out ?_; intro A5 k5 c5 w5 hown5 hg5 hat5; have b5 := N4.out.blk.kept W4.out hg5 (by decide); have f8 := b5.free 8; have e8 : w5.cell? ⟨gn, 8, none⟩ = some (.slice A4 l.live.length c4) := b5.cell 8)
      rw [Nat.zero_add, List.nil_append] at hown5
      have R5 := Lib.hid (RaSt.row S4.out O4.out N4.out GN.out W4.out hown5 hg5)
      clear hown5 hg5 hat5 b5 f8 e8 d8 S4 O4 N4 W4 B4 hM1 hM2
      generalize hw6 : w5.setCell _ _ = w6 at *
      clear hw6
      have d7 : w6.cell? ⟨w.heap.size, 7, none⟩ = some (.int .i64 (l.size : Int)) := R5.out.f.v.blk.cell 7
      have d9 : w6.cell? ⟨w.heap.size, 9, none⟩ = some (.string (st l.stream)) := R5.out.f.v.blk.cell 9
      go_upto_region 9 with (fail)
      go_cut [74] (fun v wx => ∃ fr : Bool, v = .bool fr ∧ wx = w6 ∧ Hid (FrC l b fr))
      case first =>
        by_cases h0 : l.stream = []
        · have h1 : (l.stream == []) = true := by rw [h0]; rfl
          have h2 : (l.stream == ([] : List UInt8)) = true := by rw [h0]; rfl
          have HX : Hid (FrC l b true) := FrC.yes (.inl h0)
          rw [h0] at d9
          clear h0
          go_wp2_with fail
          go_meet
          exact ⟨true, rfl, rfl, HX⟩
        · have h1 : (l.stream == []) = false := by rw [beq_eq_false_iff_ne]; exact h0
          by_cases h2 : 512 * l.size < l.stream.length + b.length
          · have h4 : 512 * (l.size : Int) < (l.stream.length : Int) + (b.length : Int) := by omega
            have HX : Hid (FrC l b true) := FrC.yes (.inr h2)
            clear h2
            go_wp2_with fail
            go_meet
            exact ⟨true, by first | rfl | (simp; omega), rfl, HX⟩
          · have h4 : ¬ 512 * (l.size : Int) < (l.stream.length : Int) + (b.length : Int) := by omega
            have HX : Hid (FrC l b false) := FrC.no (fun h9 => h9.elim h0 h2)
            clear h2
            go_wp2_with fail
            go_meet
            exact ⟨false, by first | rfl | (simp; omega), rfl, HX⟩
      obtain ⟨fr, rfl, rfl, FR⟩ := hcut
      obtain ⟨wd, hwd⟩ : ∃ wd, wd = wc := ⟨_, rfl⟩
      subst hwd
      go_upto_if 74 with (fail)
      clear d7 d9
      go_cut [13, 14] (fun fv rv wx => ∃ (L : List Sg) (s : List UInt8) (i : Nat) (N4 : Option Addr) (e4 : Nat), fv = .int .i64 (apFrom l fr : Int) ∧ rv = .int .i64 (if fr then (i : Int) else -1) ∧ Hid (RaSt w wx gn l { l with live := L, stream := s } A1 c1 A2 c2 A3 c3 A4 c4 A1 c1 A2 c2 A3 c3 N4 e4) ∧ Hid (ApC l q head b L s i fr))
      case first =>
        cases fr with
        | true =>
          have FR1 := Lib.hid (FR.out.1 rfl)
          have d6 : wd.cell? ⟨w.heap.size, 6, none⟩ = some (.int .i64 (l.n : Int)) := R5.out.f.v.blk.cell 6
          have hn64 : l.n ≤ 64 := OK.out.n64
          have hwn : IntKind.i64.wrap ((l.n : Int) - 1) = (l.n : Int) - 1 := i64_in (by omega) (by omega)
          have DW0 : Hid (DwF l.live l.n l.n (-1)) := DwF.start _ _
          have HL100 : Hid (l.live.length ≤ 100) := by have := hln.out; rw [Hid]; omega
          clear FR
          go_wp2_with fail
          clear d6 hwn
          go_loopw [14, 15] (fun rv iv wq => ∃ (j : Nat) (r : Int), rv = .int .i64 r ∧ iv = .int .i64 ((j : Int) - 1) ∧ j ≤ l.n ∧ Hid (DwF l.live l.n j r) ∧ Hid (RaSt w wq gn l l A1 c1 A2 c2 A3 c3 A4 c4 A1 c1 A2 c2 A3 c3 A5 c5)) (fun _ iv _ => (intOf iv + 1).toNat)
          case atStart => exact ⟨l.n, -1, rfl, rfl, Nat.le_refl _, DW0, R5⟩
          case round =>
            obtain ⟨j, r, rfl, rfl, hj, DW, R⟩ := hrel
            clear DW0 R5
            cases j with
            | zero =>
              have hneg : ((0 : Nat) : Int) - 1 = -1 := rfl
              rw [hneg]
              rcases DW.out.fresh with ⟨hr, hw⟩ | ⟨k, hr, hk, hw⟩
              · subst hr
                have E := Lib.hid (wAppend_full HQ.out HHD.out HBB.out HFIT.out FR1.out hw)
                have SR := Lib.hid R.out.f
                clear hw DW R
                have d0 : (wr).cell? ⟨w.heap.size, 0, none⟩ = some (.int .i64 l.D.size) := SR.out.v.blk.cell 0
                have d1 : (wr).cell? ⟨w.heap.size, 1, none⟩ = some (.int .i64 l.D.limit) := SR.out.v.blk.cell 1
                have d2 : (wr).cell? ⟨w.heap.size, 2, none⟩ = some (.slice A1 l.D.nv c1) := SR.out.v.blk.cell 2
                have d3 : (wr).cell? ⟨w.heap.size, 3, none⟩ = some (.slice A2 l.D.ng c2) := SR.out.v.blk.cell 3
                have d4 : (wr).cell? ⟨w.heap.size, 4, none⟩ = some (.slice A3 l.D.pend.length c3) := SR.out.v.blk.cell 4
                have d5 : (wr).cell? ⟨w.heap.size, 5, none⟩ = some (.int .i64 l.a) := SR.out.v.blk.cell 5
                have d6 : (wr).cell? ⟨w.heap.size, 6, none⟩ = some (.int .i64 (l.n : Int)) := SR.out.v.blk.cell 6
                have d7 : (wr).cell? ⟨w.heap.size, 7, none⟩ = some (.int .i64 (l.size : Int)) := SR.out.v.blk.cell 7
                have d8 : (wr).cell? ⟨w.heap.size, 8, none⟩ = some (.slice A4 l.live.length c4) := SR.out.v.blk.cell 8
                have d9 : (wr).cell? ⟨w.heap.size, 9, none⟩ = some (.string (st l.stream)) := SR.out.v.blk.cell 9
                have d10 : (wr).cell? ⟨w.heap.size, 10, none⟩ = some (.int .u64 (l.last : Int)) := SR.out.v.blk.cell 10
                have d11 : (wr).cell? ⟨w.heap.size, 11, none⟩ = some (.int .u64 (l.synced : Int)) := SR.out.v.blk.cell 11
                have df0 : (wr).frozen? ⟨w.heap.size, 0, none⟩ = false := SR.out.v.blk.free 0
                have df1 : (wr).frozen? ⟨w.heap.size, 1, none⟩ = false := SR.out.v.blk.free 1
                have df2 : (wr).frozen? ⟨w.heap.size, 2, none⟩ = false := SR.out.v.blk.free 2
                have df3 : (wr).frozen? ⟨w.heap.size, 3, none⟩ = false := SR.out.v.blk.free 3
                have df4 : (wr).frozen? ⟨w.heap.size, 4, none⟩ = false := SR.out.v.blk.free 4
                have df5 : (wr).frozen? ⟨w.heap.size, 5, none⟩ = false := SR.out.v.blk.free 5
                have df6 : (wr).frozen? ⟨w.heap.size, 6, none⟩ = false := SR.out.v.blk.free 6
                have df7 : (wr).frozen? ⟨w.heap.size, 7, none⟩ = false := SR.out.v.blk.free 7
                have df8 : (wr).frozen? ⟨w.heap.size, 8, none⟩ = false := SR.out.v.blk.free 8
                have df9 : (wr).frozen? ⟨w.heap.size, 9, none⟩ = false := SR.out.v.blk.free 9
                have df10 : (wr).frozen? ⟨w.heap.size, 10, none⟩ = false := SR.out.v.blk.free 10
                have df11 : (wr).frozen? ⟨w.heap.size, 11, none⟩ = false := SR.out.v.blk.free 11
                have r0 : (wr).cell? ⟨w.heap.size + 1, 0, none⟩ = some (.int .i64 0) := SR.out.z.cell 0
                have r1 : (wr).cell? ⟨w.heap.size + 1, 1, none⟩ = some (.int .i64 0) := SR.out.z.cell 1
                have r2 : (wr).cell? ⟨w.heap.size + 1, 2, none⟩ = some (.slice none 0 0) := SR.out.z.cell 2
                have r3 : (wr).cell? ⟨w.heap.size + 1, 3, none⟩ = some (.slice none 0 0) := SR.out.z.cell 3
                have r4 : (wr).cell? ⟨w.heap.size + 1, 4, none⟩ = some (.slice none 0 0) := SR.out.z.cell 4
                have r5 : (wr).cell? ⟨w.heap.size + 1, 5, none⟩ = some (.int .i64 0) := SR.out.z.cell 5
                have r6 : (wr).cell? ⟨w.heap.size + 1, 6, none⟩ = some (.int .i64 0) := SR.out.z.cell 6
                have r7 : (wr).cell? ⟨w.heap.size + 1, 7, none⟩ = some (.int .i64 0) := SR.out.z.cell 7
                have r8 : (wr).cell? ⟨w.heap.size + 1, 8, none⟩ = some (.slice none 0 0) := SR.out.z.cell 8
                have r9 : (wr).cell? ⟨w.heap.size + 1, 9, none⟩ = some (.string ⟨#[]⟩) := SR.out.z.cell 9
                have r10 : (wr).cell? ⟨w.heap.size + 1, 10, none⟩ = some (.int .u64 0) := SR.out.z.cell 10
                have r11 : (wr).cell? ⟨w.heap.size + 1, 11, none⟩ = some (.int .u64 0) := SR.out.z.cell 11
                have rf0 : (wr).frozen? ⟨w.heap.size + 1, 0, none⟩ = false := SR.out.z.free 0
                have rf1 : (wr).frozen? ⟨w.heap.size + 1, 1, none⟩ = false := SR.out.z.free 1
                have rf2 : (wr).frozen? ⟨w.heap.size + 1, 2, none⟩ = false := SR.out.z.free 2
                have rf3 : (wr).frozen? ⟨w.heap.size + 1, 3, none⟩ = false := SR.out.z.free 3
                have rf4 : (wr).frozen? ⟨w.heap.size + 1, 4, none⟩ = false := SR.out.z.free 4
                have rf5 : (wr).frozen? ⟨w.heap.size + 1, 5, none⟩ = false := SR.out.z.free 5
                have rf6 : (wr).frozen? ⟨w.heap.size + 1, 6, none⟩ = false := SR.out.z.free 6
                have rf7 : (wr).frozen? ⟨w.heap.size + 1, 7, none⟩ = false := SR.out.z.free 7
                have rf8 : (wr).frozen? ⟨w.heap.size + 1, 8, none⟩ = false := SR.out.z.free 8
                have rf9 : (wr).frozen? ⟨w.heap.size + 1, 9, none⟩ = false := SR.out.z.free 9
                have rf10 : (wr).frozen? ⟨w.heap.size + 1, 10, none⟩ = false := SR.out.z.free 10
                have rf11 : (wr).frozen? ⟨w.heap.size + 1, 11, none⟩ = false := SR.out.z.free 11
                have HF := Lib.hid (SR.out.ret SR.out.v.val)
                unfold rlC at HF
                go_wp2_with fail
                rw [E.out]
                exact bodyPost_ret (results_cell3 rfl _ _ (w.heap.size + 1) rfl HF.out.1 logTy) rfl ⟨_, rfl, HF.out.2.1, HF.out.2.2⟩
              · subst hr
                have hk0 : ¬ (k : Int) < 0 := by omega
                have AC : Hid (ApC l q head b (l.live ++ [(⟨k, q, 0⟩ : Sg)]) head k true) := ⟨fun _ => ⟨FR1.out, hw, rfl, rfl⟩, fun e => (by cases e)⟩
                have HSG : Hid (sgC ⟨k, q, 0⟩ = [.int .i64 (k : Int), .int .u64 (q : Int), .int .u64 0]) := rfl
                have n8 : wr.cell? ⟨gn, 8, none⟩ = some (.slice A5 l.live.length c5) := R.out.nv.blk.cell 8
                have QA := (Below.refl wr.heap.size wr).alloc (Nat.le_refl _) (.cells #[.int .i64 (k : Int), .int .u64 (q : Int), .int .u64 0] 89)
                have RA := Lib.hid (R.out.later QA)
                have a8 : (wr.alloc (.cells #[.int .i64 (k : Int), .int .u64 (q : Int), .int .u64 0] 89)).cell? ⟨gn, 8, none⟩ = some (.slice A5 l.live.length c5) := RA.out.nv.blk.cell 8
                have hs1 := Sl.newrsg wr ⟨k, q, 0⟩ rfl
                have HS1 := Lib.hid hs1
                have hM1 : Hid (l.live.length + 1 ≤ maxLen) := by have := HL100.out; simp only [Hid, maxLen]; omega
                have hM2 : Hid ((l.live.length + 1) * 24 ≤ 140737488355328) := by have := HL100.out; rw [Hid]; omega
                have hB := Lib.hid RA.out.f.below.size
                clear hw DW hs1 QA
                go_upto_region 18 with (at_builtin; refine wpList_append_sl _ rfl (.tmp 91) (.tmp 95) elemRsg rfl RA.out.own HS1.out rfl rfl (sgC_one _) hM1.out hM2.out hB.out ?_; intro A6 k6 c6 w7 hown7 hg7 hat7; have b7 := RA.out.nv.blk.kept RA.out.own hg7 (by decide); have f8 := b7.free 8; have e8 : w7.cell? ⟨gn, 8, none⟩ = some (.slice A5 l.live.length c5) := b7.cell 8)
                have hown8 : w7.ownsRow w.heap.size 89 3 (.slice A6 k6 c6) (l.live ++ [(⟨k, q, 0⟩ : Sg)]).length (sgcs (l.live ++ [(⟨k, q, 0⟩ : Sg)])) := by rw [sgcs_snoc, List.length_append, List.length_singleton]; exact hown7
                have R7 := Lib.hid (RaSt.row RA.out.f RA.out.old RA.out.nv GN.out RA.out.own hown8 hg7)
                clear hown7 hg7 hat7 b7 f8 e8 n8 a8 R RA HS1 hB hown8
                generalize hw8 : w7.setCell _ _ = w8 at *
                clear hw8
                have n9 : w8.cell? ⟨gn, 9, none⟩ = some (.string (st l.stream)) := R7.out.nv.blk.cell 9
                have f9 := R7.out.nv.blk.free 9
                have R8 := Lib.hid (R7.out.setStream head)
                clear R7
                go_wp2_with fail
                go_meet
                exact ⟨l.live ++ [⟨k, q, 0⟩], head, k, A6, c6, rfl, rfl, R8, AC⟩
            | succ j =>
              have hje : ((j + 1 : Nat) : Int) - 1 = (j : Int) := by omega
              rw [hje]
              have hwj : IntKind.i64.wrap ((j : Int) - 1) = (j : Int) - 1 := i64_in (by omega) (by omega)
              have HVL : Hid (RLg wr (.agg (rlC l A1 c1 A2 c2 A3 c3 A4 c4)) l) := R.out.f.v.val
              unfold rlC at HVL
              have d0 : (wr).cell? ⟨w.heap.size, 0, none⟩ = some (.int .i64 l.D.size) := R.out.f.v.blk.cell 0
              have d1 : (wr).cell? ⟨w.heap.size, 1, none⟩ = some (.int .i64 l.D.limit) := R.out.f.v.blk.cell 1
              have d2 : (wr).cell? ⟨w.heap.size, 2, none⟩ = some (.slice A1 l.D.nv c1) := R.out.f.v.blk.cell 2
              have d3 : (wr).cell? ⟨w.heap.size, 3, none⟩ = some (.slice A2 l.D.ng c2) := R.out.f.v.blk.cell 3
              have d4 : (wr).cell? ⟨w.heap.size, 4, none⟩ = some (.slice A3 l.D.pend.length c3) := R.out.f.v.blk.cell 4
              have d5 : (wr).cell? ⟨w.heap.size, 5, none⟩ = some (.int .i64 l.a) := R.out.f.v.blk.cell 5
              have d6 : (wr).cell? ⟨w.heap.size, 6, none⟩ = some (.int .i64 (l.n : Int)) := R.out.f.v.blk.cell 6
              have d7 : (wr).cell? ⟨w.heap.size, 7, none⟩ = some (.int .i64 (l.size : Int)) := R.out.f.v.blk.cell 7
              have d8 : (wr).cell? ⟨w.heap.size, 8, none⟩ = some (.slice A4 l.live.length c4) := R.out.f.v.blk.cell 8
              have d9 : (wr).cell? ⟨w.heap.size, 9, none⟩ = some (.string (st l.stream)) := R.out.f.v.blk.cell 9
              have d10 : (wr).cell? ⟨w.heap.size, 10, none⟩ = some (.int .u64 (l.last : Int)) := R.out.f.v.blk.cell 10
              have d11 : (wr).cell? ⟨w.heap.size, 11, none⟩ = some (.int .u64 (l.synced : Int)) := R.out.f.v.blk.cell 11
              have hjn : j < l.n := by omega
              go_wp2_with fail
              refine (refWUsed_any _ l j wr HVL.out HL100.out).mono ?_
              rintro e w7 ⟨rfl, hb7⟩
              have R7 := Lib.hid (R.out.later hb7)
              clear hb7 R HVL d0 d1 d2 d3 d4 d5 d6 d7 d8 d9 d10 d11
              cases hu : usedL l.live j with
              | true =>
                have DW2 := Lib.hid (DW.out.yes hu)
                clear hu
                go_wp2_with fail
                go_roundw
                case rel => exact ⟨j, r, rfl, rfl, by omega, DW2, R7⟩
                case measure => simp [intOf] <;> omega
              | false =>
                have DW2 : Hid (DwF l.live l.n j (j : Int)) := DwF.no hjn hu
                clear hu
                go_wp2_with fail
                go_roundw
                case rel => exact ⟨j, (j : Int), rfl, rfl, by omega, DW2, R7⟩
                case measure => simp [intOf] <;> omega
        | false =>
          have FR0 : Hid (¬ (l.stream = [] ∨ 512 * l.size < l.stream.length + b.length)) := fun h9 => by have := FR.out.2 h9; cases this
          have AC : Hid (ApC l q head b l.live l.stream (((l.live.getLast?).map (·.at')).getD 0) false) := ⟨fun e => (by cases e), fun _ => ⟨FR0.out, rfl, rfl, rfl⟩⟩
          clear FR
          go_wp2_with fail
          go_meet
          exact ⟨l.live, l.stream, _, A5, c5, rfl, rfl, R5, AC⟩
      obtain ⟨L, s, i, N4, e4, rfl, rfl, RC, AC⟩ := hcut
      clear R5
      obtain ⟨fv, hfv⟩ : ∃ fv, (if fr then (i : Int) else -1) = fv := ⟨_, rfl⟩
      have HFV := Lib.hid hfv
      rw [hfv]
      clear hfv
      have HLE := Lib.hid (AC.out.lens OK.out HFIT.out)
      obtain ⟨L0, s0, hL, hs0⟩ := AC.out.ne OK.out
      subst hL
      obtain ⟨gL, rfl, hgL, FZ, x0, -, -⟩ := rsg_last RC.out.own
      have hm64 : L0.length ≤ 64 := by have h1 := HLE.out.2.2.2.2; have h2 := OK.out.n64; rw [List.length_append, List.length_singleton] at h1; omega
      have hsb : s.length + b.length ≤ 40000 := by have h1 := HLE.out.1; rw [List.length_append] at h1; omega
      have hsb2 : (s.length : Int) + (b.length : Int) ≤ 40000 := by omega
      have n9 : wc.cell? ⟨gn, 9, none⟩ = some (.string (st s)) := RC.out.nv.blk.cell 9
      have f9 := RC.out.nv.blk.free 9
      have RD := Lib.hid (RC.out.setStream (s ++ b))
      go_upto_region 20 with (fail)
      clear n9 f9 x0 FZ RC
      generalize hwd2 : wc.setCell _ _ = we at *
      clear hwd2
      obtain ⟨_, he9, _, _, x0, -, -⟩ := rsg_last RD.out.own
      cases he9
      rw [hs0] at x0
      have hlen1 : (L0 ++ [s0]).length = L0.length + 1 := by rw [List.length_append, List.length_singleton]
      have n8 : we.cell? ⟨gn, 8, none⟩ = some (.slice (some ⟨gL, 0, none⟩) (L0.length + 1) e4) := by have h9 : we.cell? ⟨gn, 8, none⟩ = some (.slice (some ⟨gL, 0, none⟩) (L0 ++ [s0]).length e4) := RD.out.nv.blk.cell 8; rw [hlen1] at h9; exact h9
      have hwL : IntKind.i64.wrap (L0.length : Int) = (L0.length : Int) := i64_in (by omega) (by omega)
      have hi0 : (0 : Int) ≤ (L0.length : Int) := by omega
      have hi1 : (L0.length : Int) < (L0.length : Int) + 1 := by omega
      have hi3 : L0.length < L0.length + 1 := by omega
      obtain ⟨frm, hfrm⟩ : ∃ frm, apFrom l fr = frm := ⟨_, rfl⟩
      have HFRM := Lib.hid hfrm
      have HFL : Hid (frm ≤ (s ++ b).length) := by rw [Hid, ← hfrm]; exact HLE.out.2.2.1
      rw [hfrm]
      have hq : (frm : Int).tdiv 512 = ((frm / 512 : Nat) : Int) := (Int.ofNat_tdiv frm 512).symm
      have hk0 : frm / 512 ≤ 100 := by have := HFL.out; rw [List.length_append] at this; omega
      obtain ⟨k0, hk9⟩ : ∃ k0, frm / 512 = k0 := ⟨_, rfl⟩
      have HK0 := Lib.hid hk9
      rw [hk9] at hq hk0
      have HS0 := Lib.hid hs0
      clear hk9 hfrm hs0
      go_wp2_with fail
      clear n8 x0 hq hwL hi0 hi1 hi3
      have PU0 : Hid (RpSt l.D l.D (l.a + (i : Int) * l.size) (s ++ b) k0 k0 (s ++ b).length) := ⟨OK.out.dok, rfl, by omega, by omega⟩
      have RE : Hid (RaSt w we gn l ⟨l.D, l.a, l.n, l.size, L0 ++ [s0], s ++ b, l.last, l.synced⟩ A1 c1 A2 c2 A3 c3 A4 c4 A1 c1 A2 c2 A3 c3 (some ⟨gL, 0, none⟩) e4) := RD.out
      have hSL : (s ++ b).length ≤ 40000 := by rw [List.length_append]; exact hsb
      clear RD
      obtain ⟨S, hS⟩ : ∃ S, s ++ b = S := ⟨_, rfl⟩
      have HSB := Lib.hid hS
      rw [hS] at PU0 RE hSL HFL
      clear hS hsb hsb2
      have hmul := seg_mul (i := i) (size := l.size) (by have := HLE.out.2.1; have := OK.out.n64; omega) hsz
      have h0 := OK.out.a0
      have h1 := OK.out.am
      go_loopw [17] (fun kv wq => ∃ (k m : Nat) (D' : Dsk) (N1 : Option Addr) (e1 : Nat) (N2 : Option Addr) (e2 : Nat) (N3 : Option Addr) (e3 : Nat), kv = .int .i64 (k : Int) ∧ k ≤ 100 ∧ Hid (RaSt w wq gn l ⟨D', l.a, l.n, l.size, L0 ++ [s0], S, l.last, l.synced⟩ A1 c1 A2 c2 A3 c3 A4 c4 N1 e1 N2 e2 N3 e3 (some ⟨gL, 0, none⟩) e4) ∧ Hid (RpSt l.D D' (l.a + (i : Int) * l.size) S k0 k m)) (fun kv _ => 200 - (intOf kv).toNat)
      case atStart => exact ⟨k0, S.length, l.D, A1, c1, A2, c2, A3, c3, rfl, hk0, RE, PU0⟩
      case round =>
        obtain ⟨k, m, D', N1, e1, N2, e2, N3, e3, rfl, hk, R, PT⟩ := hrel
        clear PU0 RE
        obtain ⟨lo, hlo⟩ : ∃ lo, 512 * k = lo := ⟨_, rfl⟩
        have hw1 : IntKind.i64.wrap (512 * (k : Int)) = (lo : Int) := by rw [i64_in (by omega) (by omega)]; omega
        have hw2 : 512 * (k : Int) = (lo : Int) := by omega
        have hw8 : IntKind.i64.wrap (lo : Int) = (lo : Int) := i64_in (by omega) (by omega)
        have n9 : wr.cell? ⟨gn, 9, none⟩ = some (.string (st S)) := R.out.nv.blk.cell 9
        by_cases hlt : lo < S.length
        · have HLO := Lib.hid hlo
          have hi1 : (lo : Int) < (S.length : Int) := by omega
          obtain ⟨hj, hhj⟩ : ∃ hj, lo + 512 = hj := ⟨_, rfl⟩
          have hw3 : (lo : Int) + 512 = (hj : Int) := by omega
          have hw4 : IntKind.i64.wrap ((lo : Int) + 512) = (hj : Int) := by rw [i64_in (by omega) (by omega)]; omega
          have hw5 : IntKind.i64.wrap ((i : Int) * l.size) = (i : Int) * l.size := i64_in (by omega) (by omega)
          have hw6 : IntKind.i64.wrap (l.a + (i : Int) * l.size) = l.a + (i : Int) * l.size := i64_in (by omega) (by omega)
          have hw7 : IntKind.i64.wrap (l.a + (i : Int) * l.size + k) = l.a + (i : Int) * l.size + k := i64_in (by omega) (by omega)
          have HJ := Lib.hid hhj
          clear hlo
          have d5 : wr.cell? ⟨w.heap.size, 5, none⟩ = some (.int .i64 l.a) := R.out.f.v.blk.cell 5
          have d7 : wr.cell? ⟨w.heap.size, 7, none⟩ = some (.int .i64 (l.size : Int)) := R.out.f.v.blk.cell 7
          have n0 : wr.cell? ⟨gn, 0, none⟩ = some (.int .i64 D'.size) := R.out.nv.blk.cell 0
          have n1 : wr.cell? ⟨gn, 1, none⟩ = some (.int .i64 D'.limit) := R.out.nv.blk.cell 1
          have n2 : wr.cell? ⟨gn, 2, none⟩ = some (.slice N1 D'.nv e1) := R.out.nv.blk.cell 2
          have n3 : wr.cell? ⟨gn, 3, none⟩ = some (.slice N2 D'.ng e2) := R.out.nv.blk.cell 3
          have n4 : wr.cell? ⟨gn, 4, none⟩ = some (.slice N3 D'.pend.length e3) := R.out.nv.blk.cell 4
          by_cases hbe : S.length < hj
          · have i4 : (S.length : Int) < (hj : Int) := by omega
            have hch : Hid ((S.drop lo).take (S.length - lo) = (S.drop (512 * k)).take 512) := by
              rw [Hid, HLO.out]
              have := HJ.out
              by_cases h9 : S.length - lo = 512
              · rw [h9]
              · rw [List.take_of_length_le (by rw [List.length_drop]; omega), List.take_of_length_le (by rw [List.length_drop]; omega)]
            have i5 : (lo : Int) ≤ (S.length : Int) := by omega
            have i6 : (S.length : Int) ≤ (S.length : Int) := by omega
            have i7 : lo ≤ S.length := by omega
            have i8 : S.length ≤ S.length := by omega
            go_upto_region 27 with (fail)
            have HW : Hid (∀ wg, Below wr.heap.size wr wg → Calls Tryz.prog 35 #[.agg #[.int .i64 D'.size, .int .i64 D'.limit, .slice N1 D'.nv e1, .slice N2 D'.ng e2, .slice N3 D'.pend.length e3], .int .i64 (l.a + (i : Int) * l.size + k), .string (st ((S.drop lo).take (S.length - lo)))] wg fun e w' => ∃ v', e = .returned (.tuple #[v', .int .i64 (D'.why (l.a + (i : Int) * l.size + k) ((S.drop (512 * k)).take 512) : Nat)]) ∧ RDd w' v' (D'.write (l.a + (i : Int) * l.size + k) ((S.drop (512 * k)).take 512)) ∧ Below wg.heap.size wg w') := fun wg hbg => by
              rw [hch.out]
              exact rdwrite_any _ D' _ _ wg (R.out.nv.rd.later hbg) PT.out.ok (by have h7 := PT.out.pend; have h8 := HP.out; omega) (by rw [List.length_take]; omega)
            have QZ := (Below.refl wr.heap.size wr).alloc (Nat.le_refl _) (.cells #[.int .i64 0, .int .i64 0, .slice none 0 0, .slice none 0 0, .slice none 0 0] 33)
            have n0z := cell_later QZ n0
            have n1z := cell_later QZ n1
            have n2z := cell_later QZ n2
            have n3z := cell_later QZ n3
            have n4z := cell_later QZ n4
            have n9z := cell_later QZ n9
            have d5z := cell_later QZ d5
            have d7z := cell_later QZ d7
            clear QZ
            have HB1 : Hid (Below wr.heap.size wr wr.drew) := below_drewN (Below.refl _ _) 1
            have HB2 := Lib.hid (HB1.out.alloc (Nat.le_refl _) (.cells #[.int .i64 0, .int .i64 0, .slice none 0 0, .slice none 0 0, .slice none 0 0] 33))
            obtain ⟨E, hE⟩ : ∃ E, D'.write (l.a + (i : Int) * l.size + k) ((S.drop (512 * k)).take 512) = E := ⟨_, rfl⟩
            obtain ⟨y, hy⟩ : ∃ y, D'.why (l.a + (i : Int) * l.size + k) ((S.drop (512 * k)).take 512) = y := ⟨_, rfl⟩
            rw [hE, hy] at HW
            have HE := Lib.hid hE
            have HY := Lib.hid hy
            clear hE hy
            go_cut [19, 20] (fun pv ev wx => ∃ (gd : Nat) (B1 : Option Addr) (d1 : Nat) (B2 : Option Addr) (d2 : Nat) (B3 : Option Addr) (d3 : Nat), pv = .pointer (some ⟨gd, 0, none⟩) ∧ ev = .int .i64 (y : Int) ∧ Hid (Below wr.heap.size wr wx) ∧ Hid (Blk wx gd 33 #[.int .i64 E.size, .int .i64 E.limit, .slice B1 E.nv d1, .slice B2 E.ng d2, .slice B3 E.pend.length d3]) ∧ Hid (RDd wx (.agg #[.int .i64 E.size, .int .i64 E.limit, .slice B1 E.nv d1, .slice B2 E.ng d2, .slice B3 E.pend.length d3]) E) ∧ wr.heap.size ≤ gd)
            case first =>
              have KP : Hid (∀ W, Below wr.heap.size wr W → W.cell? ⟨gn, 0, none⟩ = some (.int .i64 D'.size) ∧ W.cell? ⟨gn, 1, none⟩ = some (.int .i64 D'.limit) ∧ W.cell? ⟨gn, 2, none⟩ = some (.slice N1 D'.nv e1) ∧ W.cell? ⟨gn, 3, none⟩ = some (.slice N2 D'.ng e2) ∧ W.cell? ⟨gn, 4, none⟩ = some (.slice N3 D'.pend.length e3) ∧ W.cell? ⟨gn, 9, none⟩ = some (.string (st S)) ∧ W.cell? ⟨w.heap.size, 5, none⟩ = some (.int .i64 l.a) ∧ W.cell? ⟨w.heap.size, 7, none⟩ = some (.int .i64 (l.size : Int)) ∧ Below wr.heap.size wr W) := fun W hb => ⟨cell_later hb n0, cell_later hb n1, cell_later hb n2, cell_later hb n3, cell_later hb n4, cell_later hb n9, cell_later hb d5, cell_later hb d7, hb⟩
              clear n0 n1 n2 n3 n4 n9 d5 d7 n0z n1z n2z n3z n4z n9z d5z d7z
              go_region_held3 (fun W => W.cell? ⟨gn, 0, none⟩ = some (.int .i64 D'.size) ∧ W.cell? ⟨gn, 1, none⟩ = some (.int .i64 D'.limit) ∧ W.cell? ⟨gn, 2, none⟩ = some (.slice N1 D'.nv e1) ∧ W.cell? ⟨gn, 3, none⟩ = some (.slice N2 D'.ng e2) ∧ W.cell? ⟨gn, 4, none⟩ = some (.slice N3 D'.pend.length e3) ∧ W.cell? ⟨gn, 9, none⟩ = some (.string (st S)) ∧ W.cell? ⟨w.heap.size, 5, none⟩ = some (.int .i64 l.a) ∧ W.cell? ⟨w.heap.size, 7, none⟩ = some (.int .i64 (l.size : Int)) ∧ Below wr.heap.size wr W)
                (first
                  | exact KP.out _ HB1.out
                  | exact KP.out _ HB2.out
                  | exact KP.out _ HB3.out
                  | exact KP.out _ (HB3.out.alloc HB3.out.size _)
                  | exact KP.out _ (below_put5 HB3.out (Nat.le_refl _) _ _ _ _ _)
                  | exact KP.out _ (below_put5 (HB3.out.alloc HB3.out.size _) HB3.out.size _ _ _ _ _)
                  | fail)
                ((first
                  | (go_at_call 35; refine (HW.out _ HB2.out).mono ?_; rintro e w3 ⟨v3, rfl, hr3, hb3⟩; obtain ⟨B1, d1, B2, d2, B3, d3, rfl⟩ := hr3.shape; have HR3 := Lib.hid hr3; have HB3 := Lib.hid (HB2.out.trans (hb3.mono HB2.out.size)); have HZ3 := Lib.hid ((Blk.new wr.drew 33 #[.int .i64 0, .int .i64 0, .slice none 0 0, .slice none 0 0, .slice none 0 0]).later hb3); have z0 : w3.cell? ⟨wr.heap.size, 0, none⟩ = some (.int .i64 0) := HZ3.out.cell 0; have z1 : w3.cell? ⟨wr.heap.size, 1, none⟩ = some (.int .i64 0) := HZ3.out.cell 1; have z2 : w3.cell? ⟨wr.heap.size, 2, none⟩ = some (.slice none 0 0) := HZ3.out.cell 2; have z3 : w3.cell? ⟨wr.heap.size, 3, none⟩ = some (.slice none 0 0) := HZ3.out.cell 3; have z4 : w3.cell? ⟨wr.heap.size, 4, none⟩ = some (.slice none 0 0) := HZ3.out.cell 4; have y0 : w3.frozen? ⟨wr.heap.size, 0, none⟩ = false := HZ3.out.free 0; have y1 : w3.frozen? ⟨wr.heap.size, 1, none⟩ = false := HZ3.out.free 1; have y2 : w3.frozen? ⟨wr.heap.size, 2, none⟩ = false := HZ3.out.free 2; have y3 : w3.frozen? ⟨wr.heap.size, 3, none⟩ = false := HZ3.out.free 3; have y4 : w3.frozen? ⟨wr.heap.size, 4, none⟩ = false := HZ3.out.free 4; clear hr3 hb3)
                  | (go_at_call 35; refine (HW.out _ HB1.out).mono ?_; rintro e w3 ⟨v3, rfl, hr3, hb3⟩; obtain ⟨B1, d1, B2, d2, B3, d3, rfl⟩ := hr3.shape; have HR3 := Lib.hid hr3; have HB3 := Lib.hid (HB1.out.trans (hb3.mono HB1.out.size)); clear hr3 hb3)
                  | fail))
              all_goals
                go_wp2_with fail
                go_meet
                first
                  | exact ⟨w3.heap.size, B1, d1, B2, d2, B3, d3, rfl, rfl, HB3.out.alloc HB3.out.size _, Blk.new w3 _ _, HR3.out.later ((Below.refl _ _).alloc (Nat.le_refl _) _), HB3.out.size⟩
                  | exact ⟨wr.heap.size, B1, d1, B2, d2, B3, d3, rfl, rfl, below_put5 HB3.out (Nat.le_refl _) _ _ _ _ _, ((((HZ3.out.put 0 _).put 1 _).put 2 _).put 3 _).put 4 _, HR3.out.same (SameK.puts5 HZ3.out (by decide) _ _ _ _ _), Nat.le_refl _⟩
            obtain ⟨gd, B1, d1, B2, d2, B3, d3, rfl, rfl, BW, BD, HRD, hgd⟩ := hcut
            have R2 := Lib.hid (R.out.later BW.out)
            have hgn : gn ≠ gd := by have := R.out.nv.blk.lt; omega
            clear R n0 n1 n2 n3 n4 n9 d5 d7 n0z n1z n2z n3z n4z n9z d5z d7z HB1 HB2 HW BW hw1 hw2 hw3 hw4 hw5 hw6 hw7 hw8 hi1 i4 i5 i6 i7 i8 hch
            have z0 : (wc).cell? ⟨gd, 0, none⟩ = some (.int .i64 E.size) := BD.out.cell 0
            have z1 : (wc).cell? ⟨gd, 1, none⟩ = some (.int .i64 E.limit) := BD.out.cell 1
            have z2 : (wc).cell? ⟨gd, 2, none⟩ = some (.slice B1 E.nv d1) := BD.out.cell 2
            have z3 : (wc).cell? ⟨gd, 3, none⟩ = some (.slice B2 E.ng d2) := BD.out.cell 3
            have z4 : (wc).cell? ⟨gd, 4, none⟩ = some (.slice B3 E.pend.length d3) := BD.out.cell 4
            have n0 : (wc).cell? ⟨gn, 0, none⟩ = some (.int .i64 D'.size) := R2.out.nv.blk.cell 0
            have n1 : (wc).cell? ⟨gn, 1, none⟩ = some (.int .i64 D'.limit) := R2.out.nv.blk.cell 1
            have n2 : (wc).cell? ⟨gn, 2, none⟩ = some (.slice N1 D'.nv e1) := R2.out.nv.blk.cell 2
            have n3 : (wc).cell? ⟨gn, 3, none⟩ = some (.slice N2 D'.ng e2) := R2.out.nv.blk.cell 3
            have n4 : (wc).cell? ⟨gn, 4, none⟩ = some (.slice N3 D'.pend.length e3) := R2.out.nv.blk.cell 4
            have nf0 : (wc).frozen? ⟨gn, 0, none⟩ = false := R2.out.nv.blk.free 0
            have nf1 : (wc).frozen? ⟨gn, 1, none⟩ = false := R2.out.nv.blk.free 1
            have nf2 : (wc).frozen? ⟨gn, 2, none⟩ = false := R2.out.nv.blk.free 2
            have nf3 : (wc).frozen? ⟨gn, 3, none⟩ = false := R2.out.nv.blk.free 3
            have nf4 : (wc).frozen? ⟨gn, 4, none⟩ = false := R2.out.nv.blk.free 4
            have R3 := Lib.hid (R2.out.setD HRD.out)
            unfold putD at R3
            have BD3 := Lib.hid (BD.out.away5 (Ne.symm hgn) (.int .i64 E.size) (.int .i64 E.limit) (.slice B1 E.nv d1) (.slice B2 E.ng d2) (.slice B3 E.pend.length d3))
            go_upto_region 29 with (fail)
            generalize hw5 : World.setCell (World.setCell (World.setCell (World.setCell (World.setCell wc _ _) _ _) _ _) _ _) _ _ = w5 at *
            clear hw5 z0 z1 z2 z3 z4 n0 n1 n2 n3 n4 nf0 nf1 nf2 nf3 nf4 R2 BD HRD
            have hkl : 512 * k < S.length := by have := HLO.out; omega
            by_cases hy0 : y = 0
            · obtain ⟨m', PU⟩ := PT.out.step hkl (by rw [HY.out]; exact hy0)
              rw [HE.out] at PU
              have PU2 := Lib.hid PU
              subst hy0
              clear PU PT
              go_wp2_with fail
              go_roundw
              case rel => exact ⟨k + 1, m', E, B1, d1, B2, d2, B3, d3, by go_num, by omega, R3, PU2⟩
              case measure => simp [intOf] <;> omega
            · obtain ⟨hr, hwe⟩ := PT.out.stop hkl (by rw [HY.out]; exact hy0)
              rw [HE.out] at hwe
              subst hwe
              rw [HY.out, ← HSB.out, ← HK0.out, ← HFRM.out] at hr
              have ER := Lib.hid (wAppend_no HQ.out HHD.out HBB.out HFIT.out AC.out hr hy0)
              have hy1 : ¬ ((y : Int) = 0) := by omega
              have hy2 : ((y : Int) == 0) = false := by rw [beq_eq_false_iff_ne]; omega
              have z0 : (w5).cell? ⟨gd, 0, none⟩ = some (.int .i64 E.size) := BD3.out.cell 0
              have z1 : (w5).cell? ⟨gd, 1, none⟩ = some (.int .i64 E.limit) := BD3.out.cell 1
              have z2 : (w5).cell? ⟨gd, 2, none⟩ = some (.slice B1 E.nv d1) := BD3.out.cell 2
              have z3 : (w5).cell? ⟨gd, 3, none⟩ = some (.slice B2 E.ng d2) := BD3.out.cell 3
              have z4 : (w5).cell? ⟨gd, 4, none⟩ = some (.slice B3 E.pend.length d3) := BD3.out.cell 4
              have d0 : (w5).cell? ⟨w.heap.size, 0, none⟩ = some (.int .i64 l.D.size) := R3.out.f.v.blk.cell 0
              have d1 : (w5).cell? ⟨w.heap.size, 1, none⟩ = some (.int .i64 l.D.limit) := R3.out.f.v.blk.cell 1
              have d2 : (w5).cell? ⟨w.heap.size, 2, none⟩ = some (.slice A1 l.D.nv c1) := R3.out.f.v.blk.cell 2
              have d3 : (w5).cell? ⟨w.heap.size, 3, none⟩ = some (.slice A2 l.D.ng c2) := R3.out.f.v.blk.cell 3
              have d4 : (w5).cell? ⟨w.heap.size, 4, none⟩ = some (.slice A3 l.D.pend.length c3) := R3.out.f.v.blk.cell 4
              have d5 : (w5).cell? ⟨w.heap.size, 5, none⟩ = some (.int .i64 l.a) := R3.out.f.v.blk.cell 5
              have d6 : (w5).cell? ⟨w.heap.size, 6, none⟩ = some (.int .i64 (l.n : Int)) := R3.out.f.v.blk.cell 6
              have d7 : (w5).cell? ⟨w.heap.size, 7, none⟩ = some (.int .i64 (l.size : Int)) := R3.out.f.v.blk.cell 7
              have d8 : (w5).cell? ⟨w.heap.size, 8, none⟩ = some (.slice A4 l.live.length c4) := R3.out.f.v.blk.cell 8
              have d9 : (w5).cell? ⟨w.heap.size, 9, none⟩ = some (.string (st l.stream)) := R3.out.f.v.blk.cell 9
              have d10 : (w5).cell? ⟨w.heap.size, 10, none⟩ = some (.int .u64 (l.last : Int)) := R3.out.f.v.blk.cell 10
              have d11 : (w5).cell? ⟨w.heap.size, 11, none⟩ = some (.int .u64 (l.synced : Int)) := R3.out.f.v.blk.cell 11
              have df0 : (w5).frozen? ⟨w.heap.size, 0, none⟩ = false := R3.out.f.v.blk.free 0
              have df1 : (w5).frozen? ⟨w.heap.size, 1, none⟩ = false := R3.out.f.v.blk.free 1
              have df2 : (w5).frozen? ⟨w.heap.size, 2, none⟩ = false := R3.out.f.v.blk.free 2
              have df3 : (w5).frozen? ⟨w.heap.size, 3, none⟩ = false := R3.out.f.v.blk.free 3
              have df4 : (w5).frozen? ⟨w.heap.size, 4, none⟩ = false := R3.out.f.v.blk.free 4
              have df5 : (w5).frozen? ⟨w.heap.size, 5, none⟩ = false := R3.out.f.v.blk.free 5
              have df6 : (w5).frozen? ⟨w.heap.size, 6, none⟩ = false := R3.out.f.v.blk.free 6
              have df7 : (w5).frozen? ⟨w.heap.size, 7, none⟩ = false := R3.out.f.v.blk.free 7
              have df8 : (w5).frozen? ⟨w.heap.size, 8, none⟩ = false := R3.out.f.v.blk.free 8
              have df9 : (w5).frozen? ⟨w.heap.size, 9, none⟩ = false := R3.out.f.v.blk.free 9
              have df10 : (w5).frozen? ⟨w.heap.size, 10, none⟩ = false := R3.out.f.v.blk.free 10
              have df11 : (w5).frozen? ⟨w.heap.size, 11, none⟩ = false := R3.out.f.v.blk.free 11
              have HNU := Lib.hid HLE.out.2.1
              have EOK := Lib.hid PT.out.ok
              have EPE : Hid (E.pend.length ≤ 900000) := by have h1 := PT.out.pend; have h2 := HP.out; rw [Hid]; omega
              have F6 := Lib.hid ((R3.out.f.setD R3.out.nv.rd).setStream [])
              unfold putD at F6
              rw [st_nil] at F6
              clear hr PT hy0
              go_upto_region 31 with (fail)
              generalize hw6 : World.setCell (World.setCell (World.setCell (World.setCell (World.setCell (World.setCell w5 _ _) _ _) _ _) _ _) _ _) _ _ = w6 at *
              clear hw6 z0 z1 z2 z3 z4 d0 d1 d2 d3 d4 d5 d6 d7 d8 d9 d10 d11 df0 df1 df2 df3 df4 df5 df6 df7 df8 df9 df10 df11 R3 BD3
              cases fr with
              | false =>
                have hf9 := HFV.out
                simp only [Bool.false_eq_true, if_false] at hf9
                subst hf9
                have hER := ER.out
                simp only [Bool.false_eq_true, if_false] at hER
                have E9 := Lib.hid hER
                clear hER ER
                have p0 : (w6).cell? ⟨w.heap.size, 0, none⟩ = some (.int .i64 E.size) := F6.out.v.blk.cell 0
                have p1 : (w6).cell? ⟨w.heap.size, 1, none⟩ = some (.int .i64 E.limit) := F6.out.v.blk.cell 1
                have p2 : (w6).cell? ⟨w.heap.size, 2, none⟩ = some (.slice B1 E.nv d1) := F6.out.v.blk.cell 2
                have p3 : (w6).cell? ⟨w.heap.size, 3, none⟩ = some (.slice B2 E.ng d2) := F6.out.v.blk.cell 3
                have p4 : (w6).cell? ⟨w.heap.size, 4, none⟩ = some (.slice B3 E.pend.length d3) := F6.out.v.blk.cell 4
                have p5 : (w6).cell? ⟨w.heap.size, 5, none⟩ = some (.int .i64 l.a) := F6.out.v.blk.cell 5
                have p6 : (w6).cell? ⟨w.heap.size, 6, none⟩ = some (.int .i64 (l.n : Int)) := F6.out.v.blk.cell 6
                have p7 : (w6).cell? ⟨w.heap.size, 7, none⟩ = some (.int .i64 (l.size : Int)) := F6.out.v.blk.cell 7
                have p8 : (w6).cell? ⟨w.heap.size, 8, none⟩ = some (.slice A4 l.live.length c4) := F6.out.v.blk.cell 8
                have p9 : (w6).cell? ⟨w.heap.size, 9, none⟩ = some (.string (st [])) := F6.out.v.blk.cell 9
                have p10 : (w6).cell? ⟨w.heap.size, 10, none⟩ = some (.int .u64 (l.last : Int)) := F6.out.v.blk.cell 10
                have p11 : (w6).cell? ⟨w.heap.size, 11, none⟩ = some (.int .u64 (l.synced : Int)) := F6.out.v.blk.cell 11
                have pf0 : (w6).frozen? ⟨w.heap.size, 0, none⟩ = false := F6.out.v.blk.free 0
                have pf1 : (w6).frozen? ⟨w.heap.size, 1, none⟩ = false := F6.out.v.blk.free 1
                have pf2 : (w6).frozen? ⟨w.heap.size, 2, none⟩ = false := F6.out.v.blk.free 2
                have pf3 : (w6).frozen? ⟨w.heap.size, 3, none⟩ = false := F6.out.v.blk.free 3
                have pf4 : (w6).frozen? ⟨w.heap.size, 4, none⟩ = false := F6.out.v.blk.free 4
                have pf5 : (w6).frozen? ⟨w.heap.size, 5, none⟩ = false := F6.out.v.blk.free 5
                have pf6 : (w6).frozen? ⟨w.heap.size, 6, none⟩ = false := F6.out.v.blk.free 6
                have pf7 : (w6).frozen? ⟨w.heap.size, 7, none⟩ = false := F6.out.v.blk.free 7
                have pf8 : (w6).frozen? ⟨w.heap.size, 8, none⟩ = false := F6.out.v.blk.free 8
                have pf9 : (w6).frozen? ⟨w.heap.size, 9, none⟩ = false := F6.out.v.blk.free 9
                have pf10 : (w6).frozen? ⟨w.heap.size, 10, none⟩ = false := F6.out.v.blk.free 10
                have pf11 : (w6).frozen? ⟨w.heap.size, 11, none⟩ = false := F6.out.v.blk.free 11
                have r0 : (w6).cell? ⟨w.heap.size + 1, 0, none⟩ = some (.int .i64 0) := F6.out.z.cell 0
                have r1 : (w6).cell? ⟨w.heap.size + 1, 1, none⟩ = some (.int .i64 0) := F6.out.z.cell 1
                have r2 : (w6).cell? ⟨w.heap.size + 1, 2, none⟩ = some (.slice none 0 0) := F6.out.z.cell 2
                have r3 : (w6).cell? ⟨w.heap.size + 1, 3, none⟩ = some (.slice none 0 0) := F6.out.z.cell 3
                have r4 : (w6).cell? ⟨w.heap.size + 1, 4, none⟩ = some (.slice none 0 0) := F6.out.z.cell 4
                have r5 : (w6).cell? ⟨w.heap.size + 1, 5, none⟩ = some (.int .i64 0) := F6.out.z.cell 5
                have r6 : (w6).cell? ⟨w.heap.size + 1, 6, none⟩ = some (.int .i64 0) := F6.out.z.cell 6
                have r7 : (w6).cell? ⟨w.heap.size + 1, 7, none⟩ = some (.int .i64 0) := F6.out.z.cell 7
                have r8 : (w6).cell? ⟨w.heap.size + 1, 8, none⟩ = some (.slice none 0 0) := F6.out.z.cell 8
                have r9 : (w6).cell? ⟨w.heap.size + 1, 9, none⟩ = some (.string ⟨#[]⟩) := F6.out.z.cell 9
                have r10 : (w6).cell? ⟨w.heap.size + 1, 10, none⟩ = some (.int .u64 0) := F6.out.z.cell 10
                have r11 : (w6).cell? ⟨w.heap.size + 1, 11, none⟩ = some (.int .u64 0) := F6.out.z.cell 11
                have rf0 : (w6).frozen? ⟨w.heap.size + 1, 0, none⟩ = false := F6.out.z.free 0
                have rf1 : (w6).frozen? ⟨w.heap.size + 1, 1, none⟩ = false := F6.out.z.free 1
                have rf2 : (w6).frozen? ⟨w.heap.size + 1, 2, none⟩ = false := F6.out.z.free 2
                have rf3 : (w6).frozen? ⟨w.heap.size + 1, 3, none⟩ = false := F6.out.z.free 3
                have rf4 : (w6).frozen? ⟨w.heap.size + 1, 4, none⟩ = false := F6.out.z.free 4
                have rf5 : (w6).frozen? ⟨w.heap.size + 1, 5, none⟩ = false := F6.out.z.free 5
                have rf6 : (w6).frozen? ⟨w.heap.size + 1, 6, none⟩ = false := F6.out.z.free 6
                have rf7 : (w6).frozen? ⟨w.heap.size + 1, 7, none⟩ = false := F6.out.z.free 7
                have rf8 : (w6).frozen? ⟨w.heap.size + 1, 8, none⟩ = false := F6.out.z.free 8
                have rf9 : (w6).frozen? ⟨w.heap.size + 1, 9, none⟩ = false := F6.out.z.free 9
                have rf10 : (w6).frozen? ⟨w.heap.size + 1, 10, none⟩ = false := F6.out.z.free 10
                have rf11 : (w6).frozen? ⟨w.heap.size + 1, 11, none⟩ = false := F6.out.z.free 11
                have HF := Lib.hid (F6.out.ret F6.out.v.val)
                unfold rlC at HF
                go_wp2_with fail
                rw [E9.out]
                exact bodyPost_ret (results_cell3 rfl _ _ (w.heap.size + 1) rfl HF.out.1 logTy) rfl ⟨_, rfl, HF.out.2.1, HF.out.2.2⟩
              | true =>
                have hf9 := HFV.out
                simp only [if_true] at hf9
                subst hf9
                have hER := ER.out
                simp only [if_true] at hER
                obtain ⟨X, hX⟩ : ∃ X : Wl, (({ l with D := wFree E (l.a + (i : Int) * l.size) l.size, stream := [] } : Wl).sync) = X := ⟨_, rfl⟩
                have HX := Lib.hid hX
                have E9 : Hid (wAppend l t = (X, 0, y)) := by rw [Hid, hER, ← hX]
                have hi0 : (0 : Int) ≤ (i : Int) := by omega
                have hi64 : i ≤ 64 := by have h1 := HNU.out; have h2 := OK.out.n64; omega
                clear hER ER hX
                have p0 : (w6).cell? ⟨w.heap.size, 0, none⟩ = some (.int .i64 E.size) := F6.out.v.blk.cell 0
                have p1 : (w6).cell? ⟨w.heap.size, 1, none⟩ = some (.int .i64 E.limit) := F6.out.v.blk.cell 1
                have p2 : (w6).cell? ⟨w.heap.size, 2, none⟩ = some (.slice B1 E.nv d1) := F6.out.v.blk.cell 2
                have p3 : (w6).cell? ⟨w.heap.size, 3, none⟩ = some (.slice B2 E.ng d2) := F6.out.v.blk.cell 3
                have p4 : (w6).cell? ⟨w.heap.size, 4, none⟩ = some (.slice B3 E.pend.length d3) := F6.out.v.blk.cell 4
                have p5 : (w6).cell? ⟨w.heap.size, 5, none⟩ = some (.int .i64 l.a) := F6.out.v.blk.cell 5
                have p6 : (w6).cell? ⟨w.heap.size, 6, none⟩ = some (.int .i64 (l.n : Int)) := F6.out.v.blk.cell 6
                have p7 : (w6).cell? ⟨w.heap.size, 7, none⟩ = some (.int .i64 (l.size : Int)) := F6.out.v.blk.cell 7
                have p8 : (w6).cell? ⟨w.heap.size, 8, none⟩ = some (.slice A4 l.live.length c4) := F6.out.v.blk.cell 8
                have p9 : (w6).cell? ⟨w.heap.size, 9, none⟩ = some (.string (st [])) := F6.out.v.blk.cell 9
                have p10 : (w6).cell? ⟨w.heap.size, 10, none⟩ = some (.int .u64 (l.last : Int)) := F6.out.v.blk.cell 10
                have p11 : (w6).cell? ⟨w.heap.size, 11, none⟩ = some (.int .u64 (l.synced : Int)) := F6.out.v.blk.cell 11
                have pf0 : (w6).frozen? ⟨w.heap.size, 0, none⟩ = false := F6.out.v.blk.free 0
                have pf1 : (w6).frozen? ⟨w.heap.size, 1, none⟩ = false := F6.out.v.blk.free 1
                have pf2 : (w6).frozen? ⟨w.heap.size, 2, none⟩ = false := F6.out.v.blk.free 2
                have pf3 : (w6).frozen? ⟨w.heap.size, 3, none⟩ = false := F6.out.v.blk.free 3
                have pf4 : (w6).frozen? ⟨w.heap.size, 4, none⟩ = false := F6.out.v.blk.free 4
                have pf5 : (w6).frozen? ⟨w.heap.size, 5, none⟩ = false := F6.out.v.blk.free 5
                have pf6 : (w6).frozen? ⟨w.heap.size, 6, none⟩ = false := F6.out.v.blk.free 6
                have pf7 : (w6).frozen? ⟨w.heap.size, 7, none⟩ = false := F6.out.v.blk.free 7
                have pf8 : (w6).frozen? ⟨w.heap.size, 8, none⟩ = false := F6.out.v.blk.free 8
                have pf9 : (w6).frozen? ⟨w.heap.size, 9, none⟩ = false := F6.out.v.blk.free 9
                have pf10 : (w6).frozen? ⟨w.heap.size, 10, none⟩ = false := F6.out.v.blk.free 10
                have pf11 : (w6).frozen? ⟨w.heap.size, 11, none⟩ = false := F6.out.v.blk.free 11
                have OKE : Hid (Wl.Ok ⟨E, l.a, l.n, l.size, l.live, [], l.last, l.synced⟩) := ⟨EOK.out, OK.out.n2, OK.out.n64, OK.out.s1, OK.out.s64, OK.out.a0, OK.out.a1, OK.out.last, OK.out.synced, OK.out.nd, OK.out.lt, fun h => absurd rfl h, Nat.zero_le _⟩
                have HCF := Lib.hid (refWFree_at2 ⟨E, l.a, l.n, l.size, l.live, [], l.last, l.synced⟩ i w6 B1 d1 B2 d2 B3 d3 A4 c4 F6.out.v.rd F6.out.v.rg OKE.out hi64 EPE.out)
                unfold rlC at HCF
                go_wp2_with fail
                refine HCF.out.mono ?_
                rintro e w7 ⟨G1, g1, G2, g2, G3, g3, rfl, hD7, hG7, hb7⟩
                have F7 := Lib.hid (F6.out.to hb7)
                have HR7 : Hid (RLg w7 (.agg #[.int .i64 (wFree E (l.a + (i : Int) * l.size) l.size).size, .int .i64 (wFree E (l.a + (i : Int) * l.size) l.size).limit, .slice G1 (wFree E (l.a + (i : Int) * l.size) l.size).nv g1, .slice G2 (wFree E (l.a + (i : Int) * l.size) l.size).ng g2, .slice G3 (wFree E (l.a + (i : Int) * l.size) l.size).pend.length g3, .int .i64 l.a, .int .i64 (l.n : Int), .int .i64 (l.size : Int), .slice A4 l.live.length c4, .string (st []), .int .u64 (l.last : Int), .int .u64 (l.synced : Int)]) ⟨wFree E (l.a + (i : Int) * l.size) l.size, l.a, l.n, l.size, l.live, [], l.last, l.synced⟩) := ⟨G1, g1, G2, g2, G3, g3, A4, c4, rfl, hD7, hG7⟩
                clear HCF hD7 hG7 hb7 F6 p0 p1 p2 p3 p4 p5 p6 p7 p8 p9 p10 p11 pf0 pf1 pf2 pf3 pf4 pf5 pf6 pf7 pf8 pf9 pf10 pf11
                go_wp2_with fail
                refine (refWSync_any _ _ w7 HR7.out).mono ?_
                rintro e w8 ⟨v8, rfl, hr8, hb8⟩
                have hxx := HX.out
                rw [show (⟨wFree E (l.a + (i : Int) * l.size) l.size, l.a, l.n, l.size, l.live, [], l.last, l.synced⟩ : Wl).sync = X from hxx] at hr8
                have F8 := Lib.hid (F7.out.to hb8)
                obtain ⟨J1, j1, J2, j2, J3, j3, J4, j4, rfl, hD8, hG8⟩ := hr8
                have F9 : Hid (Lf w (put12 w8 w.heap.size (.int .i64 X.D.size) (.int .i64 X.D.limit) (.slice J1 X.D.nv j1) (.slice J2 X.D.ng j2) (.slice J3 X.D.pend.length j3) (.int .i64 X.a) (.int .i64 (X.n : Int)) (.int .i64 (X.size : Int)) (.slice J4 X.live.length j4) (.string (st X.stream)) (.int .u64 (X.last : Int)) (.int .u64 (X.synced : Int))) X J1 j1 J2 j2 J3 j3 J4 j4 zlog) := F8.out.setAll hD8.out hG8.out
                have p0 : (w8).cell? ⟨w.heap.size, 0, none⟩ = some (.int .i64 E.size) := F8.out.v.blk.cell 0
                have p1 : (w8).cell? ⟨w.heap.size, 1, none⟩ = some (.int .i64 E.limit) := F8.out.v.blk.cell 1
                have p2 : (w8).cell? ⟨w.heap.size, 2, none⟩ = some (.slice B1 E.nv d1) := F8.out.v.blk.cell 2
                have p3 : (w8).cell? ⟨w.heap.size, 3, none⟩ = some (.slice B2 E.ng d2) := F8.out.v.blk.cell 3
                have p4 : (w8).cell? ⟨w.heap.size, 4, none⟩ = some (.slice B3 E.pend.length d3) := F8.out.v.blk.cell 4
                have p5 : (w8).cell? ⟨w.heap.size, 5, none⟩ = some (.int .i64 l.a) := F8.out.v.blk.cell 5
                have p6 : (w8).cell? ⟨w.heap.size, 6, none⟩ = some (.int .i64 (l.n : Int)) := F8.out.v.blk.cell 6
                have p7 : (w8).cell? ⟨w.heap.size, 7, none⟩ = some (.int .i64 (l.size : Int)) := F8.out.v.blk.cell 7
                have p8 : (w8).cell? ⟨w.heap.size, 8, none⟩ = some (.slice A4 l.live.length c4) := F8.out.v.blk.cell 8
                have p9 : (w8).cell? ⟨w.heap.size, 9, none⟩ = some (.string (st [])) := F8.out.v.blk.cell 9
                have p10 : (w8).cell? ⟨w.heap.size, 10, none⟩ = some (.int .u64 (l.last : Int)) := F8.out.v.blk.cell 10
                have p11 : (w8).cell? ⟨w.heap.size, 11, none⟩ = some (.int .u64 (l.synced : Int)) := F8.out.v.blk.cell 11
                have pf0 : (w8).frozen? ⟨w.heap.size, 0, none⟩ = false := F8.out.v.blk.free 0
                have pf1 : (w8).frozen? ⟨w.heap.size, 1, none⟩ = false := F8.out.v.blk.free 1
                have pf2 : (w8).frozen? ⟨w.heap.size, 2, none⟩ = false := F8.out.v.blk.free 2
                have pf3 : (w8).frozen? ⟨w.heap.size, 3, none⟩ = false := F8.out.v.blk.free 3
                have pf4 : (w8).frozen? ⟨w.heap.size, 4, none⟩ = false := F8.out.v.blk.free 4
                have pf5 : (w8).frozen? ⟨w.heap.size, 5, none⟩ = false := F8.out.v.blk.free 5
                have pf6 : (w8).frozen? ⟨w.heap.size, 6, none⟩ = false := F8.out.v.blk.free 6
                have pf7 : (w8).frozen? ⟨w.heap.size, 7, none⟩ = false := F8.out.v.blk.free 7
                have pf8 : (w8).frozen? ⟨w.heap.size, 8, none⟩ = false := F8.out.v.blk.free 8
                have pf9 : (w8).frozen? ⟨w.heap.size, 9, none⟩ = false := F8.out.v.blk.free 9
                have pf10 : (w8).frozen? ⟨w.heap.size, 10, none⟩ = false := F8.out.v.blk.free 10
                have pf11 : (w8).frozen? ⟨w.heap.size, 11, none⟩ = false := F8.out.v.blk.free 11
                unfold put12 at F9
                unfold rlC
                clear hxx F7 HR7 F8 hD8 hG8 hb8
                go_upto_region 33 with (fail)
                generalize hw9 : World.setCell (World.setCell (World.setCell (World.setCell (World.setCell (World.setCell (World.setCell (World.setCell (World.setCell (World.setCell (World.setCell (World.setCell w8 _ _) _ _) _ _) _ _) _ _) _ _) _ _) _ _) _ _) _ _) _ _) _ _ = w9 at *
                clear hw9 p0 p1 p2 p3 p4 p5 p6 p7 p8 p9 p10 p11 pf0 pf1 pf2 pf3 pf4 pf5 pf6 pf7 pf8 pf9 pf10 pf11
                have p0 : (w9).cell? ⟨w.heap.size, 0, none⟩ = some (.int .i64 X.D.size) := F9.out.v.blk.cell 0
                have p1 : (w9).cell? ⟨w.heap.size, 1, none⟩ = some (.int .i64 X.D.limit) := F9.out.v.blk.cell 1
                have p2 : (w9).cell? ⟨w.heap.size, 2, none⟩ = some (.slice J1 X.D.nv j1) := F9.out.v.blk.cell 2
                have p3 : (w9).cell? ⟨w.heap.size, 3, none⟩ = some (.slice J2 X.D.ng j2) := F9.out.v.blk.cell 3
                have p4 : (w9).cell? ⟨w.heap.size, 4, none⟩ = some (.slice J3 X.D.pend.length j3) := F9.out.v.blk.cell 4
                have p5 : (w9).cell? ⟨w.heap.size, 5, none⟩ = some (.int .i64 X.a) := F9.out.v.blk.cell 5
                have p6 : (w9).cell? ⟨w.heap.size, 6, none⟩ = some (.int .i64 (X.n : Int)) := F9.out.v.blk.cell 6
                have p7 : (w9).cell? ⟨w.heap.size, 7, none⟩ = some (.int .i64 (X.size : Int)) := F9.out.v.blk.cell 7
                have p8 : (w9).cell? ⟨w.heap.size, 8, none⟩ = some (.slice J4 X.live.length j4) := F9.out.v.blk.cell 8
                have p9 : (w9).cell? ⟨w.heap.size, 9, none⟩ = some (.string (st X.stream)) := F9.out.v.blk.cell 9
                have p10 : (w9).cell? ⟨w.heap.size, 10, none⟩ = some (.int .u64 (X.last : Int)) := F9.out.v.blk.cell 10
                have p11 : (w9).cell? ⟨w.heap.size, 11, none⟩ = some (.int .u64 (X.synced : Int)) := F9.out.v.blk.cell 11
                have pf0 : (w9).frozen? ⟨w.heap.size, 0, none⟩ = false := F9.out.v.blk.free 0
                have pf1 : (w9).frozen? ⟨w.heap.size, 1, none⟩ = false := F9.out.v.blk.free 1
                have pf2 : (w9).frozen? ⟨w.heap.size, 2, none⟩ = false := F9.out.v.blk.free 2
                have pf3 : (w9).frozen? ⟨w.heap.size, 3, none⟩ = false := F9.out.v.blk.free 3
                have pf4 : (w9).frozen? ⟨w.heap.size, 4, none⟩ = false := F9.out.v.blk.free 4
                have pf5 : (w9).frozen? ⟨w.heap.size, 5, none⟩ = false := F9.out.v.blk.free 5
                have pf6 : (w9).frozen? ⟨w.heap.size, 6, none⟩ = false := F9.out.v.blk.free 6
                have pf7 : (w9).frozen? ⟨w.heap.size, 7, none⟩ = false := F9.out.v.blk.free 7
                have pf8 : (w9).frozen? ⟨w.heap.size, 8, none⟩ = false := F9.out.v.blk.free 8
                have pf9 : (w9).frozen? ⟨w.heap.size, 9, none⟩ = false := F9.out.v.blk.free 9
                have pf10 : (w9).frozen? ⟨w.heap.size, 10, none⟩ = false := F9.out.v.blk.free 10
                have pf11 : (w9).frozen? ⟨w.heap.size, 11, none⟩ = false := F9.out.v.blk.free 11
                have r0 : (w9).cell? ⟨w.heap.size + 1, 0, none⟩ = some (.int .i64 0) := F9.out.z.cell 0
                have r1 : (w9).cell? ⟨w.heap.size + 1, 1, none⟩ = some (.int .i64 0) := F9.out.z.cell 1
                have r2 : (w9).cell? ⟨w.heap.size + 1, 2, none⟩ = some (.slice none 0 0) := F9.out.z.cell 2
                have r3 : (w9).cell? ⟨w.heap.size + 1, 3, none⟩ = some (.slice none 0 0) := F9.out.z.cell 3
                have r4 : (w9).cell? ⟨w.heap.size + 1, 4, none⟩ = some (.slice none 0 0) := F9.out.z.cell 4
                have r5 : (w9).cell? ⟨w.heap.size + 1, 5, none⟩ = some (.int .i64 0) := F9.out.z.cell 5
                have r6 : (w9).cell? ⟨w.heap.size + 1, 6, none⟩ = some (.int .i64 0) := F9.out.z.cell 6
                have r7 : (w9).cell? ⟨w.heap.size + 1, 7, none⟩ = some (.int .i64 0) := F9.out.z.cell 7
                have r8 : (w9).cell? ⟨w.heap.size + 1, 8, none⟩ = some (.slice none 0 0) := F9.out.z.cell 8
                have r9 : (w9).cell? ⟨w.heap.size + 1, 9, none⟩ = some (.string ⟨#[]⟩) := F9.out.z.cell 9
                have r10 : (w9).cell? ⟨w.heap.size + 1, 10, none⟩ = some (.int .u64 0) := F9.out.z.cell 10
                have r11 : (w9).cell? ⟨w.heap.size + 1, 11, none⟩ = some (.int .u64 0) := F9.out.z.cell 11
                have rf0 : (w9).frozen? ⟨w.heap.size + 1, 0, none⟩ = false := F9.out.z.free 0
                have rf1 : (w9).frozen? ⟨w.heap.size + 1, 1, none⟩ = false := F9.out.z.free 1
                have rf2 : (w9).frozen? ⟨w.heap.size + 1, 2, none⟩ = false := F9.out.z.free 2
                have rf3 : (w9).frozen? ⟨w.heap.size + 1, 3, none⟩ = false := F9.out.z.free 3
                have rf4 : (w9).frozen? ⟨w.heap.size + 1, 4, none⟩ = false := F9.out.z.free 4
                have rf5 : (w9).frozen? ⟨w.heap.size + 1, 5, none⟩ = false := F9.out.z.free 5
                have rf6 : (w9).frozen? ⟨w.heap.size + 1, 6, none⟩ = false := F9.out.z.free 6
                have rf7 : (w9).frozen? ⟨w.heap.size + 1, 7, none⟩ = false := F9.out.z.free 7
                have rf8 : (w9).frozen? ⟨w.heap.size + 1, 8, none⟩ = false := F9.out.z.free 8
                have rf9 : (w9).frozen? ⟨w.heap.size + 1, 9, none⟩ = false := F9.out.z.free 9
                have rf10 : (w9).frozen? ⟨w.heap.size + 1, 10, none⟩ = false := F9.out.z.free 10
                have rf11 : (w9).frozen? ⟨w.heap.size + 1, 11, none⟩ = false := F9.out.z.free 11
                have HF := Lib.hid (F9.out.ret F9.out.v.val)
                unfold rlC at HF
                go_wp2_with fail
                rw [E9.out]
                exact bodyPost_ret (results_cell3 rfl _ _ (w.heap.size + 1) rfl HF.out.1 logTy) rfl ⟨_, rfl, HF.out.2.1, HF.out.2.2⟩
          · have i4 : ¬ (S.length : Int) < (hj : Int) := by omega
            have hch : Hid ((S.drop lo).take (hj - lo) = (S.drop (512 * k)).take 512) := by
              rw [Hid, HLO.out]
              have := HJ.out
              by_cases h9 : hj - lo = 512
              · rw [h9]
              · rw [List.take_of_length_le (by rw [List.length_drop]; omega), List.take_of_length_le (by rw [List.length_drop]; omega)]
            have i5 : (lo : Int) ≤ (hj : Int) := by omega
            have i6 : (hj : Int) ≤ (S.length : Int) := by omega
            have i7 : lo ≤ hj := by omega
            have i8 : hj ≤ S.length := by omega
            go_upto_region 27 with (fail)
            have HW : Hid (∀ wg, Below wr.heap.size wr wg → Calls Tryz.prog 35 #[.agg #[.int .i64 D'.size, .int .i64 D'.limit, .slice N1 D'.nv e1, .slice N2 D'.ng e2, .slice N3 D'.pend.length e3], .int .i64 (l.a + (i : Int) * l.size + k), .string (st ((S.drop lo).take (hj - lo)))] wg fun e w' => ∃ v', e = .returned (.tuple #[v', .int .i64 (D'.why (l.a + (i : Int) * l.size + k) ((S.drop (512 * k)).take 512) : Nat)]) ∧ RDd w' v' (D'.write (l.a + (i : Int) * l.size + k) ((S.drop (512 * k)).take 512)) ∧ Below wg.heap.size wg w') := fun wg hbg => by
              rw [hch.out]
              exact rdwrite_any _ D' _ _ wg (R.out.nv.rd.later hbg) PT.out.ok (by have h7 := PT.out.pend; have h8 := HP.out; omega) (by rw [List.length_take]; omega)
            have QZ := (Below.refl wr.heap.size wr).alloc (Nat.le_refl _) (.cells #[.int .i64 0, .int .i64 0, .slice none 0 0, .slice none 0 0, .slice none 0 0] 33)
            have n0z := cell_later QZ n0
            have n1z := cell_later QZ n1
            have n2z := cell_later QZ n2
            have n3z := cell_later QZ n3
            have n4z := cell_later QZ n4
            have n9z := cell_later QZ n9
            have d5z := cell_later QZ d5
            have d7z := cell_later QZ d7
            clear QZ
            have HB1 : Hid (Below wr.heap.size wr wr.drew) := below_drewN (Below.refl _ _) 1
            have HB2 := Lib.hid (HB1.out.alloc (Nat.le_refl _) (.cells #[.int .i64 0, .int .i64 0, .slice none 0 0, .slice none 0 0, .slice none 0 0] 33))
            obtain ⟨E, hE⟩ : ∃ E, D'.write (l.a + (i : Int) * l.size + k) ((S.drop (512 * k)).take 512) = E := ⟨_, rfl⟩
            obtain ⟨y, hy⟩ : ∃ y, D'.why (l.a + (i : Int) * l.size + k) ((S.drop (512 * k)).take 512) = y := ⟨_, rfl⟩
            rw [hE, hy] at HW
            have HE := Lib.hid hE
            have HY := Lib.hid hy
            clear hE hy
            go_cut [19, 20] (fun pv ev wx => ∃ (gd : Nat) (B1 : Option Addr) (d1 : Nat) (B2 : Option Addr) (d2 : Nat) (B3 : Option Addr) (d3 : Nat), pv = .pointer (some ⟨gd, 0, none⟩) ∧ ev = .int .i64 (y : Int) ∧ Hid (Below wr.heap.size wr wx) ∧ Hid (Blk wx gd 33 #[.int .i64 E.size, .int .i64 E.limit, .slice B1 E.nv d1, .slice B2 E.ng d2, .slice B3 E.pend.length d3]) ∧ Hid (RDd wx (.agg #[.int .i64 E.size, .int .i64 E.limit, .slice B1 E.nv d1, .slice B2 E.ng d2, .slice B3 E.pend.length d3]) E) ∧ wr.heap.size ≤ gd)
            case first =>
              have KP : Hid (∀ W, Below wr.heap.size wr W → W.cell? ⟨gn, 0, none⟩ = some (.int .i64 D'.size) ∧ W.cell? ⟨gn, 1, none⟩ = some (.int .i64 D'.limit) ∧ W.cell? ⟨gn, 2, none⟩ = some (.slice N1 D'.nv e1) ∧ W.cell? ⟨gn, 3, none⟩ = some (.slice N2 D'.ng e2) ∧ W.cell? ⟨gn, 4, none⟩ = some (.slice N3 D'.pend.length e3) ∧ W.cell? ⟨gn, 9, none⟩ = some (.string (st S)) ∧ W.cell? ⟨w.heap.size, 5, none⟩ = some (.int .i64 l.a) ∧ W.cell? ⟨w.heap.size, 7, none⟩ = some (.int .i64 (l.size : Int)) ∧ Below wr.heap.size wr W) := fun W hb => ⟨cell_later hb n0, cell_later hb n1, cell_later hb n2, cell_later hb n3, cell_later hb n4, cell_later hb n9, cell_later hb d5, cell_later hb d7, hb⟩
              clear n0 n1 n2 n3 n4 n9 d5 d7 n0z n1z n2z n3z n4z n9z d5z d7z
              go_region_held3 (fun W => W.cell? ⟨gn, 0, none⟩ = some (.int .i64 D'.size) ∧ W.cell? ⟨gn, 1, none⟩ = some (.int .i64 D'.limit) ∧ W.cell? ⟨gn, 2, none⟩ = some (.slice N1 D'.nv e1) ∧ W.cell? ⟨gn, 3, none⟩ = some (.slice N2 D'.ng e2) ∧ W.cell? ⟨gn, 4, none⟩ = some (.slice N3 D'.pend.length e3) ∧ W.cell? ⟨gn, 9, none⟩ = some (.string (st S)) ∧ W.cell? ⟨w.heap.size, 5, none⟩ = some (.int .i64 l.a) ∧ W.cell? ⟨w.heap.size, 7, none⟩ = some (.int .i64 (l.size : Int)) ∧ Below wr.heap.size wr W)
                (first
                  | exact KP.out _ HB1.out
                  | exact KP.out _ HB2.out
                  | exact KP.out _ HB3.out
                  | exact KP.out _ (HB3.out.alloc HB3.out.size _)
                  | exact KP.out _ (below_put5 HB3.out (Nat.le_refl _) _ _ _ _ _)
                  | exact KP.out _ (below_put5 (HB3.out.alloc HB3.out.size _) HB3.out.size _ _ _ _ _)
                  | fail)
                ((first
                  | (go_at_call 35; refine (HW.out _ HB2.out).mono ?_; rintro e w3 ⟨v3, rfl, hr3, hb3⟩; obtain ⟨B1, d1, B2, d2, B3, d3, rfl⟩ := hr3.shape; have HR3 := Lib.hid hr3; have HB3 := Lib.hid (HB2.out.trans (hb3.mono HB2.out.size)); have HZ3 := Lib.hid ((Blk.new wr.drew 33 #[.int .i64 0, .int .i64 0, .slice none 0 0, .slice none 0 0, .slice none 0 0]).later hb3); have z0 : w3.cell? ⟨wr.heap.size, 0, none⟩ = some (.int .i64 0) := HZ3.out.cell 0; have z1 : w3.cell? ⟨wr.heap.size, 1, none⟩ = some (.int .i64 0) := HZ3.out.cell 1; have z2 : w3.cell? ⟨wr.heap.size, 2, none⟩ = some (.slice none 0 0) := HZ3.out.cell 2; have z3 : w3.cell? ⟨wr.heap.size, 3, none⟩ = some (.slice none 0 0) := HZ3.out.cell 3; have z4 : w3.cell? ⟨wr.heap.size, 4, none⟩ = some (.slice none 0 0) := HZ3.out.cell 4; have y0 : w3.frozen? ⟨wr.heap.size, 0, none⟩ = false := HZ3.out.free 0; have y1 : w3.frozen? ⟨wr.heap.size, 1, none⟩ = false := HZ3.out.free 1; have y2 : w3.frozen? ⟨wr.heap.size, 2, none⟩ = false := HZ3.out.free 2; have y3 : w3.frozen? ⟨wr.heap.size, 3, none⟩ = false := HZ3.out.free 3; have y4 : w3.frozen? ⟨wr.heap.size, 4, none⟩ = false := HZ3.out.free 4; clear hr3 hb3)
                  | (go_at_call 35; refine (HW.out _ HB1.out).mono ?_; rintro e w3 ⟨v3, rfl, hr3, hb3⟩; obtain ⟨B1, d1, B2, d2, B3, d3, rfl⟩ := hr3.shape; have HR3 := Lib.hid hr3; have HB3 := Lib.hid (HB1.out.trans (hb3.mono HB1.out.size)); clear hr3 hb3)
                  | fail))
              all_goals
                go_wp2_with fail
                go_meet
                first
                  | exact ⟨w3.heap.size, B1, d1, B2, d2, B3, d3, rfl, rfl, HB3.out.alloc HB3.out.size _, Blk.new w3 _ _, HR3.out.later ((Below.refl _ _).alloc (Nat.le_refl _) _), HB3.out.size⟩
                  | exact ⟨wr.heap.size, B1, d1, B2, d2, B3, d3, rfl, rfl, below_put5 HB3.out (Nat.le_refl _) _ _ _ _ _, ((((HZ3.out.put 0 _).put 1 _).put 2 _).put 3 _).put 4 _, HR3.out.same (SameK.puts5 HZ3.out (by decide) _ _ _ _ _), Nat.le_refl _⟩
            obtain ⟨gd, B1, d1, B2, d2, B3, d3, rfl, rfl, BW, BD, HRD, hgd⟩ := hcut
            have R2 := Lib.hid (R.out.later BW.out)
            have hgn : gn ≠ gd := by have := R.out.nv.blk.lt; omega
            clear R n0 n1 n2 n3 n4 n9 d5 d7 n0z n1z n2z n3z n4z n9z d5z d7z HB1 HB2 HW BW hw1 hw2 hw3 hw4 hw5 hw6 hw7 hw8 hi1 i4 i5 i6 i7 i8 hch
            have z0 : (wc).cell? ⟨gd, 0, none⟩ = some (.int .i64 E.size) := BD.out.cell 0
            have z1 : (wc).cell? ⟨gd, 1, none⟩ = some (.int .i64 E.limit) := BD.out.cell 1
            have z2 : (wc).cell? ⟨gd, 2, none⟩ = some (.slice B1 E.nv d1) := BD.out.cell 2
            have z3 : (wc).cell? ⟨gd, 3, none⟩ = some (.slice B2 E.ng d2) := BD.out.cell 3
            have z4 : (wc).cell? ⟨gd, 4, none⟩ = some (.slice B3 E.pend.length d3) := BD.out.cell 4
            have n0 : (wc).cell? ⟨gn, 0, none⟩ = some (.int .i64 D'.size) := R2.out.nv.blk.cell 0
            have n1 : (wc).cell? ⟨gn, 1, none⟩ = some (.int .i64 D'.limit) := R2.out.nv.blk.cell 1
            have n2 : (wc).cell? ⟨gn, 2, none⟩ = some (.slice N1 D'.nv e1) := R2.out.nv.blk.cell 2
            have n3 : (wc).cell? ⟨gn, 3, none⟩ = some (.slice N2 D'.ng e2) := R2.out.nv.blk.cell 3
            have n4 : (wc).cell? ⟨gn, 4, none⟩ = some (.slice N3 D'.pend.length e3) := R2.out.nv.blk.cell 4
            have nf0 : (wc).frozen? ⟨gn, 0, none⟩ = false := R2.out.nv.blk.free 0
            have nf1 : (wc).frozen? ⟨gn, 1, none⟩ = false := R2.out.nv.blk.free 1
            have nf2 : (wc).frozen? ⟨gn, 2, none⟩ = false := R2.out.nv.blk.free 2
            have nf3 : (wc).frozen? ⟨gn, 3, none⟩ = false := R2.out.nv.blk.free 3
            have nf4 : (wc).frozen? ⟨gn, 4, none⟩ = false := R2.out.nv.blk.free 4
            have R3 := Lib.hid (R2.out.setD HRD.out)
            unfold putD at R3
            have BD3 := Lib.hid (BD.out.away5 (Ne.symm hgn) (.int .i64 E.size) (.int .i64 E.limit) (.slice B1 E.nv d1) (.slice B2 E.ng d2) (.slice B3 E.pend.length d3))
            go_upto_region 29 with (fail)
            generalize hw5 : World.setCell (World.setCell (World.setCell (World.setCell (World.setCell wc _ _) _ _) _ _) _ _) _ _ = w5 at *
            clear hw5 z0 z1 z2 z3 z4 n0 n1 n2 n3 n4 nf0 nf1 nf2 nf3 nf4 R2 BD HRD
            have hkl : 512 * k < S.length := by have := HLO.out; omega
            by_cases hy0 : y = 0
            · obtain ⟨m', PU⟩ := PT.out.step hkl (by rw [HY.out]; exact hy0)
              rw [HE.out] at PU
              have PU2 := Lib.hid PU
              subst hy0
              clear PU PT
              go_wp2_with fail
              go_roundw
              case rel => exact ⟨k + 1, m', E, B1, d1, B2, d2, B3, d3, by go_num, by omega, R3, PU2⟩
              case measure => simp [intOf] <;> omega
            · obtain ⟨hr, hwe⟩ := PT.out.stop hkl (by rw [HY.out]; exact hy0)
              rw [HE.out] at hwe
              subst hwe
              rw [HY.out, ← HSB.out, ← HK0.out, ← HFRM.out] at hr
              have ER := Lib.hid (wAppend_no HQ.out HHD.out HBB.out HFIT.out AC.out hr hy0)
              have hy1 : ¬ ((y : Int) = 0) := by omega
              have hy2 : ((y : Int) == 0) = false := by rw [beq_eq_false_iff_ne]; omega
              have z0 : (w5).cell? ⟨gd, 0, none⟩ = some (.int .i64 E.size) := BD3.out.cell 0
              have z1 : (w5).cell? ⟨gd, 1, none⟩ = some (.int .i64 E.limit) := BD3.out.cell 1
              have z2 : (w5).cell? ⟨gd, 2, none⟩ = some (.slice B1 E.nv d1) := BD3.out.cell 2
              have z3 : (w5).cell? ⟨gd, 3, none⟩ = some (.slice B2 E.ng d2) := BD3.out.cell 3
              have z4 : (w5).cell? ⟨gd, 4, none⟩ = some (.slice B3 E.pend.length d3) := BD3.out.cell 4
              have d0 : (w5).cell? ⟨w.heap.size, 0, none⟩ = some (.int .i64 l.D.size) := R3.out.f.v.blk.cell 0
              have d1 : (w5).cell? ⟨w.heap.size, 1, none⟩ = some (.int .i64 l.D.limit) := R3.out.f.v.blk.cell 1
              have d2 : (w5).cell? ⟨w.heap.size, 2, none⟩ = some (.slice A1 l.D.nv c1) := R3.out.f.v.blk.cell 2
              have d3 : (w5).cell? ⟨w.heap.size, 3, none⟩ = some (.slice A2 l.D.ng c2) := R3.out.f.v.blk.cell 3
              have d4 : (w5).cell? ⟨w.heap.size, 4, none⟩ = some (.slice A3 l.D.pend.length c3) := R3.out.f.v.blk.cell 4
              have d5 : (w5).cell? ⟨w.heap.size, 5, none⟩ = some (.int .i64 l.a) := R3.out.f.v.blk.cell 5
              have d6 : (w5).cell? ⟨w.heap.size, 6, none⟩ = some (.int .i64 (l.n : Int)) := R3.out.f.v.blk.cell 6
              have d7 : (w5).cell? ⟨w.heap.size, 7, none⟩ = some (.int .i64 (l.size : Int)) := R3.out.f.v.blk.cell 7
              have d8 : (w5).cell? ⟨w.heap.size, 8, none⟩ = some (.slice A4 l.live.length c4) := R3.out.f.v.blk.cell 8
              have d9 : (w5).cell? ⟨w.heap.size, 9, none⟩ = some (.string (st l.stream)) := R3.out.f.v.blk.cell 9
              have d10 : (w5).cell? ⟨w.heap.size, 10, none⟩ = some (.int .u64 (l.last : Int)) := R3.out.f.v.blk.cell 10
              have d11 : (w5).cell? ⟨w.heap.size, 11, none⟩ = some (.int .u64 (l.synced : Int)) := R3.out.f.v.blk.cell 11
              have df0 : (w5).frozen? ⟨w.heap.size, 0, none⟩ = false := R3.out.f.v.blk.free 0
              have df1 : (w5).frozen? ⟨w.heap.size, 1, none⟩ = false := R3.out.f.v.blk.free 1
              have df2 : (w5).frozen? ⟨w.heap.size, 2, none⟩ = false := R3.out.f.v.blk.free 2
              have df3 : (w5).frozen? ⟨w.heap.size, 3, none⟩ = false := R3.out.f.v.blk.free 3
              have df4 : (w5).frozen? ⟨w.heap.size, 4, none⟩ = false := R3.out.f.v.blk.free 4
              have df5 : (w5).frozen? ⟨w.heap.size, 5, none⟩ = false := R3.out.f.v.blk.free 5
              have df6 : (w5).frozen? ⟨w.heap.size, 6, none⟩ = false := R3.out.f.v.blk.free 6
              have df7 : (w5).frozen? ⟨w.heap.size, 7, none⟩ = false := R3.out.f.v.blk.free 7
              have df8 : (w5).frozen? ⟨w.heap.size, 8, none⟩ = false := R3.out.f.v.blk.free 8
              have df9 : (w5).frozen? ⟨w.heap.size, 9, none⟩ = false := R3.out.f.v.blk.free 9
              have df10 : (w5).frozen? ⟨w.heap.size, 10, none⟩ = false := R3.out.f.v.blk.free 10
              have df11 : (w5).frozen? ⟨w.heap.size, 11, none⟩ = false := R3.out.f.v.blk.free 11
              have HNU := Lib.hid HLE.out.2.1
              have EOK := Lib.hid PT.out.ok
              have EPE : Hid (E.pend.length ≤ 900000) := by have h1 := PT.out.pend; have h2 := HP.out; rw [Hid]; omega
              have F6 := Lib.hid ((R3.out.f.setD R3.out.nv.rd).setStream [])
              unfold putD at F6
              rw [st_nil] at F6
              clear hr PT hy0
              go_upto_region 31 with (fail)
              generalize hw6 : World.setCell (World.setCell (World.setCell (World.setCell (World.setCell (World.setCell w5 _ _) _ _) _ _) _ _) _ _) _ _ = w6 at *
              clear hw6 z0 z1 z2 z3 z4 d0 d1 d2 d3 d4 d5 d6 d7 d8 d9 d10 d11 df0 df1 df2 df3 df4 df5 df6 df7 df8 df9 df10 df11 R3 BD3
              cases fr with
              | false =>
                have hf9 := HFV.out
                simp only [Bool.false_eq_true, if_false] at hf9
                subst hf9
                have hER := ER.out
                simp only [Bool.false_eq_true, if_false] at hER
                have E9 := Lib.hid hER
                clear hER ER
                have p0 : (w6).cell? ⟨w.heap.size, 0, none⟩ = some (.int .i64 E.size) := F6.out.v.blk.cell 0
                have p1 : (w6).cell? ⟨w.heap.size, 1, none⟩ = some (.int .i64 E.limit) := F6.out.v.blk.cell 1
                have p2 : (w6).cell? ⟨w.heap.size, 2, none⟩ = some (.slice B1 E.nv d1) := F6.out.v.blk.cell 2
                have p3 : (w6).cell? ⟨w.heap.size, 3, none⟩ = some (.slice B2 E.ng d2) := F6.out.v.blk.cell 3
                have p4 : (w6).cell? ⟨w.heap.size, 4, none⟩ = some (.slice B3 E.pend.length d3) := F6.out.v.blk.cell 4
                have p5 : (w6).cell? ⟨w.heap.size, 5, none⟩ = some (.int .i64 l.a) := F6.out.v.blk.cell 5
                have p6 : (w6).cell? ⟨w.heap.size, 6, none⟩ = some (.int .i64 (l.n : Int)) := F6.out.v.blk.cell 6
                have p7 : (w6).cell? ⟨w.heap.size, 7, none⟩ = some (.int .i64 (l.size : Int)) := F6.out.v.blk.cell 7
                have p8 : (w6).cell? ⟨w.heap.size, 8, none⟩ = some (.slice A4 l.live.length c4) := F6.out.v.blk.cell 8
                have p9 : (w6).cell? ⟨w.heap.size, 9, none⟩ = some (.string (st [])) := F6.out.v.blk.cell 9
                have p10 : (w6).cell? ⟨w.heap.size, 10, none⟩ = some (.int .u64 (l.last : Int)) := F6.out.v.blk.cell 10
                have p11 : (w6).cell? ⟨w.heap.size, 11, none⟩ = some (.int .u64 (l.synced : Int)) := F6.out.v.blk.cell 11
                have pf0 : (w6).frozen? ⟨w.heap.size, 0, none⟩ = false := F6.out.v.blk.free 0
                have pf1 : (w6).frozen? ⟨w.heap.size, 1, none⟩ = false := F6.out.v.blk.free 1
                have pf2 : (w6).frozen? ⟨w.heap.size, 2, none⟩ = false := F6.out.v.blk.free 2
                have pf3 : (w6).frozen? ⟨w.heap.size, 3, none⟩ = false := F6.out.v.blk.free 3
                have pf4 : (w6).frozen? ⟨w.heap.size, 4, none⟩ = false := F6.out.v.blk.free 4
                have pf5 : (w6).frozen? ⟨w.heap.size, 5, none⟩ = false := F6.out.v.blk.free 5
                have pf6 : (w6).frozen? ⟨w.heap.size, 6, none⟩ = false := F6.out.v.blk.free 6
                have pf7 : (w6).frozen? ⟨w.heap.size, 7, none⟩ = false := F6.out.v.blk.free 7
                have pf8 : (w6).frozen? ⟨w.heap.size, 8, none⟩ = false := F6.out.v.blk.free 8
                have pf9 : (w6).frozen? ⟨w.heap.size, 9, none⟩ = false := F6.out.v.blk.free 9
                have pf10 : (w6).frozen? ⟨w.heap.size, 10, none⟩ = false := F6.out.v.blk.free 10
                have pf11 : (w6).frozen? ⟨w.heap.size, 11, none⟩ = false := F6.out.v.blk.free 11
                have r0 : (w6).cell? ⟨w.heap.size + 1, 0, none⟩ = some (.int .i64 0) := F6.out.z.cell 0
                have r1 : (w6).cell? ⟨w.heap.size + 1, 1, none⟩ = some (.int .i64 0) := F6.out.z.cell 1
                have r2 : (w6).cell? ⟨w.heap.size + 1, 2, none⟩ = some (.slice none 0 0) := F6.out.z.cell 2
                have r3 : (w6).cell? ⟨w.heap.size + 1, 3, none⟩ = some (.slice none 0 0) := F6.out.z.cell 3
                have r4 : (w6).cell? ⟨w.heap.size + 1, 4, none⟩ = some (.slice none 0 0) := F6.out.z.cell 4
                have r5 : (w6).cell? ⟨w.heap.size + 1, 5, none⟩ = some (.int .i64 0) := F6.out.z.cell 5
                have r6 : (w6).cell? ⟨w.heap.size + 1, 6, none⟩ = some (.int .i64 0) := F6.out.z.cell 6
                have r7 : (w6).cell? ⟨w.heap.size + 1, 7, none⟩ = some (.int .i64 0) := F6.out.z.cell 7
                have r8 : (w6).cell? ⟨w.heap.size + 1, 8, none⟩ = some (.slice none 0 0) := F6.out.z.cell 8
                have r9 : (w6).cell? ⟨w.heap.size + 1, 9, none⟩ = some (.string ⟨#[]⟩) := F6.out.z.cell 9
                have r10 : (w6).cell? ⟨w.heap.size + 1, 10, none⟩ = some (.int .u64 0) := F6.out.z.cell 10
                have r11 : (w6).cell? ⟨w.heap.size + 1, 11, none⟩ = some (.int .u64 0) := F6.out.z.cell 11
                have rf0 : (w6).frozen? ⟨w.heap.size + 1, 0, none⟩ = false := F6.out.z.free 0
                have rf1 : (w6).frozen? ⟨w.heap.size + 1, 1, none⟩ = false := F6.out.z.free 1
                have rf2 : (w6).frozen? ⟨w.heap.size + 1, 2, none⟩ = false := F6.out.z.free 2
                have rf3 : (w6).frozen? ⟨w.heap.size + 1, 3, none⟩ = false := F6.out.z.free 3
                have rf4 : (w6).frozen? ⟨w.heap.size + 1, 4, none⟩ = false := F6.out.z.free 4
                have rf5 : (w6).frozen? ⟨w.heap.size + 1, 5, none⟩ = false := F6.out.z.free 5
                have rf6 : (w6).frozen? ⟨w.heap.size + 1, 6, none⟩ = false := F6.out.z.free 6
                have rf7 : (w6).frozen? ⟨w.heap.size + 1, 7, none⟩ = false := F6.out.z.free 7
                have rf8 : (w6).frozen? ⟨w.heap.size + 1, 8, none⟩ = false := F6.out.z.free 8
                have rf9 : (w6).frozen? ⟨w.heap.size + 1, 9, none⟩ = false := F6.out.z.free 9
                have rf10 : (w6).frozen? ⟨w.heap.size + 1, 10, none⟩ = false := F6.out.z.free 10
                have rf11 : (w6).frozen? ⟨w.heap.size + 1, 11, none⟩ = false := F6.out.z.free 11
                have HF := Lib.hid (F6.out.ret F6.out.v.val)
                unfold rlC at HF
                go_wp2_with fail
                rw [E9.out]
                exact bodyPost_ret (results_cell3 rfl _ _ (w.heap.size + 1) rfl HF.out.1 logTy) rfl ⟨_, rfl, HF.out.2.1, HF.out.2.2⟩
              | true =>
                have hf9 := HFV.out
                simp only [if_true] at hf9
                subst hf9
                have hER := ER.out
                simp only [if_true] at hER
                obtain ⟨X, hX⟩ : ∃ X : Wl, (({ l with D := wFree E (l.a + (i : Int) * l.size) l.size, stream := [] } : Wl).sync) = X := ⟨_, rfl⟩
                have HX := Lib.hid hX
                have E9 : Hid (wAppend l t = (X, 0, y)) := by rw [Hid, hER, ← hX]
                have hi0 : (0 : Int) ≤ (i : Int) := by omega
                have hi64 : i ≤ 64 := by have h1 := HNU.out; have h2 := OK.out.n64; omega
                clear hER ER hX
                have p0 : (w6).cell? ⟨w.heap.size, 0, none⟩ = some (.int .i64 E.size) := F6.out.v.blk.cell 0
                have p1 : (w6).cell? ⟨w.heap.size, 1, none⟩ = some (.int .i64 E.limit) := F6.out.v.blk.cell 1
                have p2 : (w6).cell? ⟨w.heap.size, 2, none⟩ = some (.slice B1 E.nv d1) := F6.out.v.blk.cell 2
                have p3 : (w6).cell? ⟨w.heap.size, 3, none⟩ = some (.slice B2 E.ng d2) := F6.out.v.blk.cell 3
                have p4 : (w6).cell? ⟨w.heap.size, 4, none⟩ = some (.slice B3 E.pend.length d3) := F6.out.v.blk.cell 4
                have p5 : (w6).cell? ⟨w.heap.size, 5, none⟩ = some (.int .i64 l.a) := F6.out.v.blk.cell 5
                have p6 : (w6).cell? ⟨w.heap.size, 6, none⟩ = some (.int .i64 (l.n : Int)) := F6.out.v.blk.cell 6
                have p7 : (w6).cell? ⟨w.heap.size, 7, none⟩ = some (.int .i64 (l.size : Int)) := F6.out.v.blk.cell 7
                have p8 : (w6).cell? ⟨w.heap.size, 8, none⟩ = some (.slice A4 l.live.length c4) := F6.out.v.blk.cell 8
                have p9 : (w6).cell? ⟨w.heap.size, 9, none⟩ = some (.string (st [])) := F6.out.v.blk.cell 9
                have p10 : (w6).cell? ⟨w.heap.size, 10, none⟩ = some (.int .u64 (l.last : Int)) := F6.out.v.blk.cell 10
                have p11 : (w6).cell? ⟨w.heap.size, 11, none⟩ = some (.int .u64 (l.synced : Int)) := F6.out.v.blk.cell 11
                have pf0 : (w6).frozen? ⟨w.heap.size, 0, none⟩ = false := F6.out.v.blk.free 0
                have pf1 : (w6).frozen? ⟨w.heap.size, 1, none⟩ = false := F6.out.v.blk.free 1
                have pf2 : (w6).frozen? ⟨w.heap.size, 2, none⟩ = false := F6.out.v.blk.free 2
                have pf3 : (w6).frozen? ⟨w.heap.size, 3, none⟩ = false := F6.out.v.blk.free 3
                have pf4 : (w6).frozen? ⟨w.heap.size, 4, none⟩ = false := F6.out.v.blk.free 4
                have pf5 : (w6).frozen? ⟨w.heap.size, 5, none⟩ = false := F6.out.v.blk.free 5
                have pf6 : (w6).frozen? ⟨w.heap.size, 6, none⟩ = false := F6.out.v.blk.free 6
                have pf7 : (w6).frozen? ⟨w.heap.size, 7, none⟩ = false := F6.out.v.blk.free 7
                have pf8 : (w6).frozen? ⟨w.heap.size, 8, none⟩ = false := F6.out.v.blk.free 8
                have pf9 : (w6).frozen? ⟨w.heap.size, 9, none⟩ = false := F6.out.v.blk.free 9
                have pf10 : (w6).frozen? ⟨w.heap.size, 10, none⟩ = false := F6.out.v.blk.free 10
                have pf11 : (w6).frozen? ⟨w.heap.size, 11, none⟩ = false := F6.out.v.blk.free 11
                have OKE : Hid (Wl.Ok ⟨E, l.a, l.n, l.size, l.live, [], l.last, l.synced⟩) := ⟨EOK.out, OK.out.n2, OK.out.n64, OK.out.s1, OK.out.s64, OK.out.a0, OK.out.a1, OK.out.last, OK.out.synced, OK.out.nd, OK.out.lt, fun h => absurd rfl h, Nat.zero_le _⟩
                have HCF := Lib.hid (refWFree_at2 ⟨E, l.a, l.n, l.size, l.live, [], l.last, l.synced⟩ i w6 B1 d1 B2 d2 B3 d3 A4 c4 F6.out.v.rd F6.out.v.rg OKE.out hi64 EPE.out)
                unfold rlC at HCF
                go_wp2_with fail
                refine HCF.out.mono ?_
                rintro e w7 ⟨G1, g1, G2, g2, G3, g3, rfl, hD7, hG7, hb7⟩
                have F7 := Lib.hid (F6.out.to hb7)
                have HR7 : Hid (RLg w7 (.agg #[.int .i64 (wFree E (l.a + (i : Int) * l.size) l.size).size, .int .i64 (wFree E (l.a + (i : Int) * l.size) l.size).limit, .slice G1 (wFree E (l.a + (i : Int) * l.size) l.size).nv g1, .slice G2 (wFree E (l.a + (i : Int) * l.size) l.size).ng g2, .slice G3 (wFree E (l.a + (i : Int) * l.size) l.size).pend.length g3, .int .i64 l.a, .int .i64 (l.n : Int), .int .i64 (l.size : Int), .slice A4 l.live.length c4, .string (st []), .int .u64 (l.last : Int), .int .u64 (l.synced : Int)]) ⟨wFree E (l.a + (i : Int) * l.size) l.size, l.a, l.n, l.size, l.live, [], l.last, l.synced⟩) := ⟨G1, g1, G2, g2, G3, g3, A4, c4, rfl, hD7, hG7⟩
                clear HCF hD7 hG7 hb7 F6 p0 p1 p2 p3 p4 p5 p6 p7 p8 p9 p10 p11 pf0 pf1 pf2 pf3 pf4 pf5 pf6 pf7 pf8 pf9 pf10 pf11
                go_wp2_with fail
                refine (refWSync_any _ _ w7 HR7.out).mono ?_
                rintro e w8 ⟨v8, rfl, hr8, hb8⟩
                have hxx := HX.out
                rw [show (⟨wFree E (l.a + (i : Int) * l.size) l.size, l.a, l.n, l.size, l.live, [], l.last, l.synced⟩ : Wl).sync = X from hxx] at hr8
                have F8 := Lib.hid (F7.out.to hb8)
                obtain ⟨J1, j1, J2, j2, J3, j3, J4, j4, rfl, hD8, hG8⟩ := hr8
                have F9 : Hid (Lf w (put12 w8 w.heap.size (.int .i64 X.D.size) (.int .i64 X.D.limit) (.slice J1 X.D.nv j1) (.slice J2 X.D.ng j2) (.slice J3 X.D.pend.length j3) (.int .i64 X.a) (.int .i64 (X.n : Int)) (.int .i64 (X.size : Int)) (.slice J4 X.live.length j4) (.string (st X.stream)) (.int .u64 (X.last : Int)) (.int .u64 (X.synced : Int))) X J1 j1 J2 j2 J3 j3 J4 j4 zlog) := F8.out.setAll hD8.out hG8.out
                have p0 : (w8).cell? ⟨w.heap.size, 0, none⟩ = some (.int .i64 E.size) := F8.out.v.blk.cell 0
                have p1 : (w8).cell? ⟨w.heap.size, 1, none⟩ = some (.int .i64 E.limit) := F8.out.v.blk.cell 1
                have p2 : (w8).cell? ⟨w.heap.size, 2, none⟩ = some (.slice B1 E.nv d1) := F8.out.v.blk.cell 2
                have p3 : (w8).cell? ⟨w.heap.size, 3, none⟩ = some (.slice B2 E.ng d2) := F8.out.v.blk.cell 3
                have p4 : (w8).cell? ⟨w.heap.size, 4, none⟩ = some (.slice B3 E.pend.length d3) := F8.out.v.blk.cell 4
                have p5 : (w8).cell? ⟨w.heap.size, 5, none⟩ = some (.int .i64 l.a) := F8.out.v.blk.cell 5
                have p6 : (w8).cell? ⟨w.heap.size, 6, none⟩ = some (.int .i64 (l.n : Int)) := F8.out.v.blk.cell 6
                have p7 : (w8).cell? ⟨w.heap.size, 7, none⟩ = some (.int .i64 (l.size : Int)) := F8.out.v.blk.cell 7
                have p8 : (w8).cell? ⟨w.heap.size, 8, none⟩ = some (.slice A4 l.live.length c4) := F8.out.v.blk.cell 8
                have p9 : (w8).cell? ⟨w.heap.size, 9, none⟩ = some (.string (st [])) := F8.out.v.blk.cell 9
                have p10 : (w8).cell? ⟨w.heap.size, 10, none⟩ = some (.int .u64 (l.last : Int)) := F8.out.v.blk.cell 10
                have p11 : (w8).cell? ⟨w.heap.size, 11, none⟩ = some (.int .u64 (l.synced : Int)) := F8.out.v.blk.cell 11
                have pf0 : (w8).frozen? ⟨w.heap.size, 0, none⟩ = false := F8.out.v.blk.free 0
                have pf1 : (w8).frozen? ⟨w.heap.size, 1, none⟩ = false := F8.out.v.blk.free 1
                have pf2 : (w8).frozen? ⟨w.heap.size, 2, none⟩ = false := F8.out.v.blk.free 2
                have pf3 : (w8).frozen? ⟨w.heap.size, 3, none⟩ = false := F8.out.v.blk.free 3
                have pf4 : (w8).frozen? ⟨w.heap.size, 4, none⟩ = false := F8.out.v.blk.free 4
                have pf5 : (w8).frozen? ⟨w.heap.size, 5, none⟩ = false := F8.out.v.blk.free 5
                have pf6 : (w8).frozen? ⟨w.heap.size, 6, none⟩ = false := F8.out.v.blk.free 6
                have pf7 : (w8).frozen? ⟨w.heap.size, 7, none⟩ = false := F8.out.v.blk.free 7
                have pf8 : (w8).frozen? ⟨w.heap.size, 8, none⟩ = false := F8.out.v.blk.free 8
                have pf9 : (w8).frozen? ⟨w.heap.size, 9, none⟩ = false := F8.out.v.blk.free 9
                have pf10 : (w8).frozen? ⟨w.heap.size, 10, none⟩ = false := F8.out.v.blk.free 10
                have pf11 : (w8).frozen? ⟨w.heap.size, 11, none⟩ = false := F8.out.v.blk.free 11
                unfold put12 at F9
                unfold rlC
                clear hxx F7 HR7 F8 hD8 hG8 hb8
                go_upto_region 33 with (fail)
                generalize hw9 : World.setCell (World.setCell (World.setCell (World.setCell (World.setCell (World.setCell (World.setCell (World.setCell (World.setCell (World.setCell (World.setCell (World.setCell w8 _ _) _ _) _ _) _ _) _ _) _ _) _ _) _ _) _ _) _ _) _ _) _ _ = w9 at *
                clear hw9 p0 p1 p2 p3 p4 p5 p6 p7 p8 p9 p10 p11 pf0 pf1 pf2 pf3 pf4 pf5 pf6 pf7 pf8 pf9 pf10 pf11
                have p0 : (w9).cell? ⟨w.heap.size, 0, none⟩ = some (.int .i64 X.D.size) := F9.out.v.blk.cell 0
                have p1 : (w9).cell? ⟨w.heap.size, 1, none⟩ = some (.int .i64 X.D.limit) := F9.out.v.blk.cell 1
                have p2 : (w9).cell? ⟨w.heap.size, 2, none⟩ = some (.slice J1 X.D.nv j1) := F9.out.v.blk.cell 2
                have p3 : (w9).cell? ⟨w.heap.size, 3, none⟩ = some (.slice J2 X.D.ng j2) := F9.out.v.blk.cell 3
                have p4 : (w9).cell? ⟨w.heap.size, 4, none⟩ = some (.slice J3 X.D.pend.length j3) := F9.out.v.blk.cell 4
                have p5 : (w9).cell? ⟨w.heap.size, 5, none⟩ = some (.int .i64 X.a) := F9.out.v.blk.cell 5
                have p6 : (w9).cell? ⟨w.heap.size, 6, none⟩ = some (.int .i64 (X.n : Int)) := F9.out.v.blk.cell 6
                have p7 : (w9).cell? ⟨w.heap.size, 7, none⟩ = some (.int .i64 (X.size : Int)) := F9.out.v.blk.cell 7
                have p8 : (w9).cell? ⟨w.heap.size, 8, none⟩ = some (.slice J4 X.live.length j4) := F9.out.v.blk.cell 8
                have p9 : (w9).cell? ⟨w.heap.size, 9, none⟩ = some (.string (st X.stream)) := F9.out.v.blk.cell 9
                have p10 : (w9).cell? ⟨w.heap.size, 10, none⟩ = some (.int .u64 (X.last : Int)) := F9.out.v.blk.cell 10
                have p11 : (w9).cell? ⟨w.heap.size, 11, none⟩ = some (.int .u64 (X.synced : Int)) := F9.out.v.blk.cell 11
                have pf0 : (w9).frozen? ⟨w.heap.size, 0, none⟩ = false := F9.out.v.blk.free 0
                have pf1 : (w9).frozen? ⟨w.heap.size, 1, none⟩ = false := F9.out.v.blk.free 1
                have pf2 : (w9).frozen? ⟨w.heap.size, 2, none⟩ = false := F9.out.v.blk.free 2
                have pf3 : (w9).frozen? ⟨w.heap.size, 3, none⟩ = false := F9.out.v.blk.free 3
                have pf4 : (w9).frozen? ⟨w.heap.size, 4, none⟩ = false := F9.out.v.blk.free 4
                have pf5 : (w9).frozen? ⟨w.heap.size, 5, none⟩ = false := F9.out.v.blk.free 5
                have pf6 : (w9).frozen? ⟨w.heap.size, 6, none⟩ = false := F9.out.v.blk.free 6
                have pf7 : (w9).frozen? ⟨w.heap.size, 7, none⟩ = false := F9.out.v.blk.free 7
                have pf8 : (w9).frozen? ⟨w.heap.size, 8, none⟩ = false := F9.out.v.blk.free 8
                have pf9 : (w9).frozen? ⟨w.heap.size, 9, none⟩ = false := F9.out.v.blk.free 9
                have pf10 : (w9).frozen? ⟨w.heap.size, 10, none⟩ = false := F9.out.v.blk.free 10
                have pf11 : (w9).frozen? ⟨w.heap.size, 11, none⟩ = false := F9.out.v.blk.free 11
                have r0 : (w9).cell? ⟨w.heap.size + 1, 0, none⟩ = some (.int .i64 0) := F9.out.z.cell 0
                have r1 : (w9).cell? ⟨w.heap.size + 1, 1, none⟩ = some (.int .i64 0) := F9.out.z.cell 1
                have r2 : (w9).cell? ⟨w.heap.size + 1, 2, none⟩ = some (.slice none 0 0) := F9.out.z.cell 2
                have r3 : (w9).cell? ⟨w.heap.size + 1, 3, none⟩ = some (.slice none 0 0) := F9.out.z.cell 3
                have r4 : (w9).cell? ⟨w.heap.size + 1, 4, none⟩ = some (.slice none 0 0) := F9.out.z.cell 4
                have r5 : (w9).cell? ⟨w.heap.size + 1, 5, none⟩ = some (.int .i64 0) := F9.out.z.cell 5
                have r6 : (w9).cell? ⟨w.heap.size + 1, 6, none⟩ = some (.int .i64 0) := F9.out.z.cell 6
                have r7 : (w9).cell? ⟨w.heap.size + 1, 7, none⟩ = some (.int .i64 0) := F9.out.z.cell 7
                have r8 : (w9).cell? ⟨w.heap.size + 1, 8, none⟩ = some (.slice none 0 0) := F9.out.z.cell 8
                have r9 : (w9).cell? ⟨w.heap.size + 1, 9, none⟩ = some (.string ⟨#[]⟩) := F9.out.z.cell 9
                have r10 : (w9).cell? ⟨w.heap.size + 1, 10, none⟩ = some (.int .u64 0) := F9.out.z.cell 10
                have r11 : (w9).cell? ⟨w.heap.size + 1, 11, none⟩ = some (.int .u64 0) := F9.out.z.cell 11
                have rf0 : (w9).frozen? ⟨w.heap.size + 1, 0, none⟩ = false := F9.out.z.free 0
                have rf1 : (w9).frozen? ⟨w.heap.size + 1, 1, none⟩ = false := F9.out.z.free 1
                have rf2 : (w9).frozen? ⟨w.heap.size + 1, 2, none⟩ = false := F9.out.z.free 2
                have rf3 : (w9).frozen? ⟨w.heap.size + 1, 3, none⟩ = false := F9.out.z.free 3
                have rf4 : (w9).frozen? ⟨w.heap.size + 1, 4, none⟩ = false := F9.out.z.free 4
                have rf5 : (w9).frozen? ⟨w.heap.size + 1, 5, none⟩ = false := F9.out.z.free 5
                have rf6 : (w9).frozen? ⟨w.heap.size + 1, 6, none⟩ = false := F9.out.z.free 6
                have rf7 : (w9).frozen? ⟨w.heap.size + 1, 7, none⟩ = false := F9.out.z.free 7
                have rf8 : (w9).frozen? ⟨w.heap.size + 1, 8, none⟩ = false := F9.out.z.free 8
                have rf9 : (w9).frozen? ⟨w.heap.size + 1, 9, none⟩ = false := F9.out.z.free 9
                have rf10 : (w9).frozen? ⟨w.heap.size + 1, 10, none⟩ = false := F9.out.z.free 10
                have rf11 : (w9).frozen? ⟨w.heap.size + 1, 11, none⟩ = false := F9.out.z.free 11
                have HF := Lib.hid (F9.out.ret F9.out.v.val)
                unfold rlC at HF
                go_wp2_with fail
                rw [E9.out]
                exact bodyPost_ret (results_cell3 rfl _ _ (w.heap.size + 1) rfl HF.out.1 logTy) rfl ⟨_, rfl, HF.out.2.1, HF.out.2.2⟩
        · have hge : ¬ 512 * k < S.length := by omega
          have hi1 : ¬ (lo : Int) < (S.length : Int) := by omega
          have hr := PT.out.done hge
          rw [← HSB.out, ← HK0.out, ← HFRM.out] at hr
          have E9 := Lib.hid (wAppend_ok HQ.out HHD.out HBB.out HFIT.out AC.out hr rfl)
          rw [HSB.out] at E9
          clear hr hge hlo hlt PT hmul h0 h1
          obtain ⟨_, he9, _, FZ, x0, x2, -⟩ := rsg_last R.out.own
          cases he9
          have hlen1 : (L0 ++ [s0]).length = L0.length + 1 := by rw [List.length_append, List.length_singleton]
          have n8 : wr.cell? ⟨gn, 8, none⟩ = some (.slice (some ⟨gL, 0, none⟩) (L0.length + 1) e4) := by have h9 : wr.cell? ⟨gn, 8, none⟩ = some (.slice (some ⟨gL, 0, none⟩) (L0 ++ [s0]).length e4) := R.out.nv.blk.cell 8; rw [hlen1] at h9; exact h9
          have hwL : IntKind.i64.wrap (L0.length : Int) = (L0.length : Int) := i64_in (by omega) (by omega)
          have hi0 : (0 : Int) ≤ (L0.length : Int) := by omega
          have hi3 : (L0.length : Int) < (L0.length : Int) + 1 := by omega
          have hi4 : L0.length < L0.length + 1 := by omega
          have hwc : IntKind.u64.wrap ((s0.count : Int) + 1) = (((s0.count + 1) % U64 : Nat) : Int) := by have := u64_add s0.count 1; simpa using this
          have f2 := FZ.out (L0.length * 3 + 2)
          have R5 := Lib.hid (R.out.bump rfl)
          obtain ⟨cc, hcc⟩ : ∃ cc, (s0.count + 1) % U64 = cc := ⟨_, rfl⟩
          rw [hcc] at hwc R5
          obtain ⟨BL, hBL⟩ : ∃ BL, bumpL (L0 ++ [s0]) = BL := ⟨_, rfl⟩
          rw [hBL] at E9
          have R6 : Hid (RaSt w (wr.setCell ⟨gL, L0.length * 3 + 2, none⟩ (.int .u64 (cc : Int))) gn l ⟨D', l.a, l.n, l.size, BL, S, l.last, l.synced⟩ A1 c1 A2 c2 A3 c3 A4 c4 N1 e1 N2 e2 N3 e3 (some ⟨gL, 0, none⟩) e4) := by rw [← hBL]; exact R5.out
          clear hcc hBL R R5 FZ
          go_upto_region 35 with (fail)
          generalize hw5 : World.setCell wr _ _ = w5 at *
          clear hw5 n8 x0 x2 f2 hwL hi0 hi3 hi4 hwc n9
          have n10 : w5.cell? ⟨gn, 10, none⟩ = some (.int .u64 (l.last : Int)) := R6.out.nv.blk.cell 10
          have f10 := R6.out.nv.blk.free 10
          have R7 := Lib.hid (R6.out.setLast q)
          clear R6
          go_upto_region 36 with (fail)
          generalize hw6 : World.setCell w5 _ _ = w6 at *
          clear hw6 n10 f10
          have d0 : (w6).cell? ⟨gn, 0, none⟩ = some (.int .i64 D'.size) := R7.out.nv.blk.cell 0
          have d1 : (w6).cell? ⟨gn, 1, none⟩ = some (.int .i64 D'.limit) := R7.out.nv.blk.cell 1
          have d2 : (w6).cell? ⟨gn, 2, none⟩ = some (.slice N1 D'.nv e1) := R7.out.nv.blk.cell 2
          have d3 : (w6).cell? ⟨gn, 3, none⟩ = some (.slice N2 D'.ng e2) := R7.out.nv.blk.cell 3
          have d4 : (w6).cell? ⟨gn, 4, none⟩ = some (.slice N3 D'.pend.length e3) := R7.out.nv.blk.cell 4
          have d5 : (w6).cell? ⟨gn, 5, none⟩ = some (.int .i64 l.a) := R7.out.nv.blk.cell 5
          have d6 : (w6).cell? ⟨gn, 6, none⟩ = some (.int .i64 (l.n : Int)) := R7.out.nv.blk.cell 6
          have d7 : (w6).cell? ⟨gn, 7, none⟩ = some (.int .i64 (l.size : Int)) := R7.out.nv.blk.cell 7
          have d8 : (w6).cell? ⟨gn, 8, none⟩ = some (.slice (some ⟨gL, 0, none⟩) BL.length e4) := R7.out.nv.blk.cell 8
          have d9 : (w6).cell? ⟨gn, 9, none⟩ = some (.string (st S)) := R7.out.nv.blk.cell 9
          have d10 : (w6).cell? ⟨gn, 10, none⟩ = some (.int .u64 (q : Int)) := R7.out.nv.blk.cell 10
          have d11 : (w6).cell? ⟨gn, 11, none⟩ = some (.int .u64 (l.synced : Int)) := R7.out.nv.blk.cell 11
          have df0 : (w6).frozen? ⟨gn, 0, none⟩ = false := R7.out.nv.blk.free 0
          have df1 : (w6).frozen? ⟨gn, 1, none⟩ = false := R7.out.nv.blk.free 1
          have df2 : (w6).frozen? ⟨gn, 2, none⟩ = false := R7.out.nv.blk.free 2
          have df3 : (w6).frozen? ⟨gn, 3, none⟩ = false := R7.out.nv.blk.free 3
          have df4 : (w6).frozen? ⟨gn, 4, none⟩ = false := R7.out.nv.blk.free 4
          have df5 : (w6).frozen? ⟨gn, 5, none⟩ = false := R7.out.nv.blk.free 5
          have df6 : (w6).frozen? ⟨gn, 6, none⟩ = false := R7.out.nv.blk.free 6
          have df7 : (w6).frozen? ⟨gn, 7, none⟩ = false := R7.out.nv.blk.free 7
          have df8 : (w6).frozen? ⟨gn, 8, none⟩ = false := R7.out.nv.blk.free 8
          have df9 : (w6).frozen? ⟨gn, 9, none⟩ = false := R7.out.nv.blk.free 9
          have df10 : (w6).frozen? ⟨gn, 10, none⟩ = false := R7.out.nv.blk.free 10
          have df11 : (w6).frozen? ⟨gn, 11, none⟩ = false := R7.out.nv.blk.free 11
          have r0 : (w6).cell? ⟨w.heap.size + 1, 0, none⟩ = some (.int .i64 0) := R7.out.f.z.cell 0
          have r1 : (w6).cell? ⟨w.heap.size + 1, 1, none⟩ = some (.int .i64 0) := R7.out.f.z.cell 1
          have r2 : (w6).cell? ⟨w.heap.size + 1, 2, none⟩ = some (.slice none 0 0) := R7.out.f.z.cell 2
          have r3 : (w6).cell? ⟨w.heap.size + 1, 3, none⟩ = some (.slice none 0 0) := R7.out.f.z.cell 3
          have r4 : (w6).cell? ⟨w.heap.size + 1, 4, none⟩ = some (.slice none 0 0) := R7.out.f.z.cell 4
          have r5 : (w6).cell? ⟨w.heap.size + 1, 5, none⟩ = some (.int .i64 0) := R7.out.f.z.cell 5
          have r6 : (w6).cell? ⟨w.heap.size + 1, 6, none⟩ = some (.int .i64 0) := R7.out.f.z.cell 6
          have r7 : (w6).cell? ⟨w.heap.size + 1, 7, none⟩ = some (.int .i64 0) := R7.out.f.z.cell 7
          have r8 : (w6).cell? ⟨w.heap.size + 1, 8, none⟩ = some (.slice none 0 0) := R7.out.f.z.cell 8
          have r9 : (w6).cell? ⟨w.heap.size + 1, 9, none⟩ = some (.string ⟨#[]⟩) := R7.out.f.z.cell 9
          have r10 : (w6).cell? ⟨w.heap.size + 1, 10, none⟩ = some (.int .u64 0) := R7.out.f.z.cell 10
          have r11 : (w6).cell? ⟨w.heap.size + 1, 11, none⟩ = some (.int .u64 0) := R7.out.f.z.cell 11
          have rf0 : (w6).frozen? ⟨w.heap.size + 1, 0, none⟩ = false := R7.out.f.z.free 0
          have rf1 : (w6).frozen? ⟨w.heap.size + 1, 1, none⟩ = false := R7.out.f.z.free 1
          have rf2 : (w6).frozen? ⟨w.heap.size + 1, 2, none⟩ = false := R7.out.f.z.free 2
          have rf3 : (w6).frozen? ⟨w.heap.size + 1, 3, none⟩ = false := R7.out.f.z.free 3
          have rf4 : (w6).frozen? ⟨w.heap.size + 1, 4, none⟩ = false := R7.out.f.z.free 4
          have rf5 : (w6).frozen? ⟨w.heap.size + 1, 5, none⟩ = false := R7.out.f.z.free 5
          have rf6 : (w6).frozen? ⟨w.heap.size + 1, 6, none⟩ = false := R7.out.f.z.free 6
          have rf7 : (w6).frozen? ⟨w.heap.size + 1, 7, none⟩ = false := R7.out.f.z.free 7
          have rf8 : (w6).frozen? ⟨w.heap.size + 1, 8, none⟩ = false := R7.out.f.z.free 8
          have rf9 : (w6).frozen? ⟨w.heap.size + 1, 9, none⟩ = false := R7.out.f.z.free 9
          have rf10 : (w6).frozen? ⟨w.heap.size + 1, 10, none⟩ = false := R7.out.f.z.free 10
          have rf11 : (w6).frozen? ⟨w.heap.size + 1, 11, none⟩ = false := R7.out.f.z.free 11
          have HF := Lib.hid (R7.out.f.ret R7.out.nv.val)
          unfold rlC at HF
          go_wp2_with fail
          rw [E9.out]
          exact bodyPost_ret (results_cell3 rfl _ _ (w.heap.size + 1) rfl HF.out.1 logTy) rfl ⟨_, rfl, HF.out.2.1, HF.out.2.2⟩
end Go.Proofs.YtojlldalhhibmaaGreatDoor
