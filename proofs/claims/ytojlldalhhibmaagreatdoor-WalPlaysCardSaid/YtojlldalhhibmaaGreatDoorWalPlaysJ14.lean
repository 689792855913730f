/- What the proof of WalPlays needs, part 14. -/
import Derived.Test.YtojlldalhhibmaaGreatDoorWalPlaysJ5
import Derived.Test.YtojlldalhhibmaaGreatDoorWalPlaysJ10
import Derived.Test.YtojlldalhhibmaaGreatDoorWalPlaysJ13

namespace Go.Proofs.YtojlldalhhibmaaGreatDoor
open Go Go.RowKit
set_option linter.unusedVariables false

theorem trS_free {l : Wl} {seq i : Nat} {x : Sg} (hi : i < l.live.length) (hx : l.live[i]? = some x) (hs : x.stays seq = false) : (i + 1 = l.live.length → trS l seq (i + 1) = []) ∧ (i + 1 ≠ l.live.length → trS l seq (i + 1) = trS l seq i) := by
  refine ⟨fun h => ?_, fun h => ?_⟩
  · have hls : l.live.getLast? = some x := by rw [List.getLast?_eq_getElem?, ← h, Nat.add_sub_cancel, hx]
    unfold trS
    rw [if_pos ⟨h, by rw [hls]; exact hs⟩]
  · unfold trS
    rw [if_neg (fun h1 => h h1.1), if_neg (fun h1 => by have := h1.1; omega)]
theorem trS_stay {l : Wl} {seq i : Nat} {x : Sg} (hi : i < l.live.length) (hx : l.live[i]? = some x) (hs : x.stays seq = true) : trS l seq (i + 1) = trS l seq i := by
  unfold trS
  rw [if_neg (fun h1 => by have := h1.1; omega : ¬ (i = l.live.length ∧ ((l.live.getLast?).map (·.stays seq)).getD true = false)), if_neg]
  rintro ⟨h1, h2⟩
  have hls : l.live.getLast? = some x := by rw [List.getLast?_eq_getElem?, ← h1, Nat.add_sub_cancel, hx]
  rw [hls] at h2
  simp only [Option.map_some, Option.getD_some] at h2
  rw [hs] at h2
  cases h2
theorem trS_zero (l : Wl) (seq : Nat) : trS l seq 0 = l.stream := by
  unfold trS
  split
  · rename_i h1
    have hl : l.live = [] := List.eq_nil_of_length_eq_zero h1.1.symm
    rw [hl] at h1
    simp at h1
  · rfl
/-- The log behind i segments. -/
def rtL (l : Wl) (seq i : Nat) : Wl := { l with D := wTruncD l.D l.a l.size seq (l.live.take i), stream := trS l seq i }
structure RtSt (w wr : World) (l : Wl) (seq i : Nat) (A1 : Option Addr) (c1 : Nat) (A2 : Option Addr) (c2 : Nat) (A3 : Option Addr) (c3 : Nat) (A4 : Option Addr) (c4 : Nat) (v' : Value) : Prop where
  f : Lf w wr (rtL l seq i) A1 c1 A2 c2 A3 c3 A4 c4 zlog
  old : Sl (fun b => kindAt wr b = some (some 89) ∧ b < w.heap.size) wr 3 (.slice A4 l.live.length c4) l.live.length (sgcs l.live)
  own : wr.ownsRow w.heap.size 89 3 v' (stayL l seq i).length (sgcs (stayL l seq i))
section
variable {w wr w2 w3 : World} {l : Wl} {seq i : Nat} {A1 A2 A3 A4 B1 B2 B3 : Option Addr} {c1 c2 c3 c4 d1 d2 d3 : Nat} {v' v3 : Value} {x : Sg}
theorem old_keep {S : List Value} {n : Nat} {v : Value} (h : Sl (fun b => kindAt wr b = some (some 89) ∧ b < w.heap.size) wr 3 v n S) (hk : ∀ b, kindAt wr b = some (some 89) → b < w.heap.size → w2.heap[b]? = wr.heap[b]?) :
    Sl (fun b => kindAt w2 b = some (some 89) ∧ b < w.heap.size) w2 3 v n S :=
  (h.keep fun b o ⟨h0, h1⟩ => World.cell?_of_block (a := ⟨b, o, none⟩) (hk b h0 h1)).more fun b ⟨h0, h1⟩ => ⟨kind_same (hk b h0 h1) h0, h1⟩
theorem RtSt.later (s : RtSt w wr l seq i A1 c1 A2 c2 A3 c3 A4 c4 v') (hb : Below wr.heap.size wr w2) : RtSt w w2 l seq i A1 c1 A2 c2 A3 c3 A4 c4 v' :=
  ⟨s.f.to hb, old_keep s.old fun b h0 _ => hb.block b (kind_lt h0), own_later s.own hb⟩
theorem RtSt.stay (s : RtSt w wr l seq i A1 c1 A2 c2 A3 c3 A4 c4 v') (hx : l.live[i]? = some x) (hst : x.stays seq = true) (hown : w3.ownsRow w.heap.size 89 3 v3 ((stayL l seq i).length + 1) (sgcs (stayL l seq i) ++ sgC x)) (hg : wr.grownBy w3 v'.ownBlock) :
    RtSt w w3 l seq (i + 1) A1 c1 A2 c2 A3 c3 A4 c4 v3 := by
  have hi : i < l.live.length := (List.getElem?_eq_some_iff.1 hx).1
  have ht : l.live.take (i + 1) = l.live.take i ++ [x] := by rw [List.take_add_one, hx]; rfl
  have hS : stayL l seq (i + 1) = stayL l seq i ++ [x] := by unfold stayL; rw [ht, List.filter_append]; simp [hst]
  have hL : rtL l seq (i + 1) = rtL l seq i := by unfold rtL; rw [trS_stay hi hx hst, ht, wTruncD_snoc, if_pos hst]
  have h1 : SameK rdKs wr w3 := SameK.grown hg (own_not s.own (by decide))
  have old3 := old_keep s.old (w2 := w3) fun b h0 h1 => hg.block b (kind_lt h0) fun e => by have := (s.own.lt b e.symm).1; omega
  refine ⟨?_, old3, by rw [hS, List.length_append, List.length_singleton, sgcs_snoc]; exact hown⟩
  rw [hL]
  exact ⟨⟨s.f.v.blk.kept s.own hg (by decide), s.f.v.rd.same h1, old3.more fun b h => h.1⟩, s.f.z.kept s.own hg (by decide), below_grown_own s.f.below s.own hg s.f.below.size⟩
/-- A segment is given back. -/
theorem RtSt.free (s : RtSt w wr l seq i A1 c1 A2 c2 A3 c3 A4 c4 v') (hx : l.live[i]? = some x) (hst : x.stays seq = false) {E : Dsk} (hE : wFree (wTruncD l.D l.a l.size seq (l.live.take i)) (l.a + (x.at' : Int) * l.size) l.size = E)
    (hD : RDd wr (.agg #[.int .i64 E.size, .int .i64 E.limit, .slice B1 E.nv d1, .slice B2 E.ng d2, .slice B3 E.pend.length d3]) E) :
    (i + 1 ≠ l.live.length → RtSt w (putL wr w.heap.size (rlC { (rtL l seq i) with D := E } B1 d1 B2 d2 B3 d3 A4 c4)) l seq (i + 1) B1 d1 B2 d2 B3 d3 A4 c4 v') ∧
    (i + 1 = l.live.length → RtSt w ((putL wr w.heap.size (rlC { (rtL l seq i) with D := E } B1 d1 B2 d2 B3 d3 A4 c4)).setCell ⟨w.heap.size, 9, none⟩ (.string (st []))) l seq (i + 1) B1 d1 B2 d2 B3 d3 A4 c4 v') := by
  have hi : i < l.live.length := (List.getElem?_eq_some_iff.1 hx).1
  have ht : l.live.take (i + 1) = l.live.take i ++ [x] := by rw [List.take_add_one, hx]; rfl
  have hS : stayL l seq (i + 1) = stayL l seq i := by unfold stayL; rw [ht, List.filter_append]; simp [hst]
  have hT := trS_free (l := l) hi hx hst
  have hb : Blk wr w.heap.size 43 #[_, _, _, _, _, _, _, _, _, _, _, _] := s.f.v.blk
  have hs : SameK rlKs wr (putL wr w.heap.size (rlC { (rtL l seq i) with D := E } B1 d1 B2 d2 B3 d3 A4 c4)) := SameK.puts12 hb (by decide) _ _ _ _ _ _ _ _ _ _ _ _
  have hE2 : wTruncD l.D l.a l.size seq (l.live.take (i + 1)) = E := by rw [ht, wTruncD_snoc, if_neg (by rw [hst]; simp)]; exact hE
  have f1 : Lf w (putL wr w.heap.size (rlC { (rtL l seq i) with D := E } B1 d1 B2 d2 B3 d3 A4 c4)) { (rtL l seq i) with D := E } B1 d1 B2 d2 B3 d3 A4 c4 zlog :=
    ⟨put12_lv s.f.v hD s.f.v.rg, away12_blk s.f.z (by omega) _ _ _ _ _ _ _ _ _ _ _ _, below_put12 s.f.below (Nat.le_refl _) _ _ _ _ _ _ _ _ _ _ _ _⟩
  have o1 := old_keep s.old (w2 := putL wr w.heap.size (rlC { (rtL l seq i) with D := E } B1 d1 B2 d2 B3 d3 A4 c4)) fun b h0 _ => hs b _ (by decide) h0
  have w1 := own_sameK s.own hs (by decide)
  refine ⟨fun hne => ?_, fun he => ?_⟩
  · refine ⟨?_, o1, by rw [hS]; exact w1⟩
    unfold rtL at f1 ⊢
    rw [hT.2 hne, hE2]
    exact f1
  · have h9 : SameK rlKs (putL wr w.heap.size (rlC { (rtL l seq i) with D := E } B1 d1 B2 d2 B3 d3 A4 c4)) ((putL wr w.heap.size (rlC { (rtL l seq i) with D := E } B1 d1 B2 d2 B3 d3 A4 c4)).setCell ⟨w.heap.size, 9, none⟩ (.string (st []))) := SameK.setCell (p := ⟨w.heap.size, 9, none⟩) f1.v.blk (by decide) _
    refine ⟨?_, old_keep o1 fun b h0 _ => h9 b _ (by decide) h0, by rw [hS]; exact own_sameK w1 h9 (by decide)⟩
    have f2 := f1.setStream []
    unfold rtL at f2 ⊢
    rw [hT.1 he, hE2]
    exact f2
end
set_option maxHeartbeats 8000000 in
set_option maxRecDepth 100000 in
theorem refWTrunc_any (v : Value) (l : Wl) (seq : Nat) (w : World) (hr : RLg w v l) (ok : l.Ok) (hp : l.D.pend.length ≤ 700000) :
    Calls Tryz.prog 13 #[v, .int .u64 (seq : Int)] w fun e w' => ∃ v', e = .returned (.tuple #[v', .int .i64 ((wTrunc l seq).2 : Int)]) ∧ RLg w' v' (wTrunc l seq).1 ∧ Below w.heap.size w w' := by
  obtain ⟨A1, c1, A2, c2, A3, c3, A4, c4, rfl, HD, HG⟩ := hr
  have S0 := Lib.hid (Lf.start (v := .int .i64 0) HD.out HG.out zlog)
  have OK := Lib.hid ok
  have HP := Lib.hid hp
  have hln := Lib.hid (Nat.le_trans ok.len ok.n64)
  clear ok hp HD
  unfold zlog at S0
  by_cases hs : l.last < seq
  · have E : Hid (wTrunc l seq = (l, 83)) := by unfold wTrunc; rw [Hid, if_pos hs]
    have hsi : (l.last : Int) < (seq : Int) := by omega
    rw [E.out]
    clear hs HG E
    unfold rlC at *
    go_enter Tryz.func13, Tryz.ntmps13
    go_upto_region 1 with (fail)
    generalize hwa : World.alloc (World.alloc w _) _ = wa at *
    clear hwa
    have d0 : (wa).cell? ⟨w.heap.size, 0, none⟩ = some (.int .i64 l.D.size) := S0.out.v.blk.cell 0
    have d1 : (wa).cell? ⟨w.heap.size, 1, none⟩ = some (.int .i64 l.D.limit) := S0.out.v.blk.cell 1
    have d2 : (wa).cell? ⟨w.heap.size, 2, none⟩ = some (.slice A1 l.D.nv c1) := S0.out.v.blk.cell 2
    have d3 : (wa).cell? ⟨w.heap.size, 3, none⟩ = some (.slice A2 l.D.ng c2) := S0.out.v.blk.cell 3
    have d4 : (wa).cell? ⟨w.heap.size, 4, none⟩ = some (.slice A3 l.D.pend.length c3) := S0.out.v.blk.cell 4
    have d5 : (wa).cell? ⟨w.heap.size, 5, none⟩ = some (.int .i64 l.a) := S0.out.v.blk.cell 5
    have d6 : (wa).cell? ⟨w.heap.size, 6, none⟩ = some (.int .i64 (l.n : Int)) := S0.out.v.blk.cell 6
    have d7 : (wa).cell? ⟨w.heap.size, 7, none⟩ = some (.int .i64 (l.size : Int)) := S0.out.v.blk.cell 7
    have d8 : (wa).cell? ⟨w.heap.size, 8, none⟩ = some (.slice A4 l.live.length c4) := S0.out.v.blk.cell 8
    have d9 : (wa).cell? ⟨w.heap.size, 9, none⟩ = some (.string (st l.stream)) := S0.out.v.blk.cell 9
    have d10 : (wa).cell? ⟨w.heap.size, 10, none⟩ = some (.int .u64 (l.last : Int)) := S0.out.v.blk.cell 10
    have d11 : (wa).cell? ⟨w.heap.size, 11, none⟩ = some (.int .u64 (l.synced : Int)) := S0.out.v.blk.cell 11
    have df0 : (wa).frozen? ⟨w.heap.size, 0, none⟩ = false := S0.out.v.blk.free 0
    have df1 : (wa).frozen? ⟨w.heap.size, 1, none⟩ = false := S0.out.v.blk.free 1
    have df2 : (wa).frozen? ⟨w.heap.size, 2, none⟩ = false := S0.out.v.blk.free 2
    have df3 : (wa).frozen? ⟨w.heap.size, 3, none⟩ = false := S0.out.v.blk.free 3
    have df4 : (wa).frozen? ⟨w.heap.size, 4, none⟩ = false := S0.out.v.blk.free 4
    have df5 : (wa).frozen? ⟨w.heap.size, 5, none⟩ = false := S0.out.v.blk.free 5
    have df6 : (wa).frozen? ⟨w.heap.size, 6, none⟩ = false := S0.out.v.blk.free 6
    have df7 : (wa).frozen? ⟨w.heap.size, 7, none⟩ = false := S0.out.v.blk.free 7
    have df8 : (wa).frozen? ⟨w.heap.size, 8, none⟩ = false := S0.out.v.blk.free 8
    have df9 : (wa).frozen? ⟨w.heap.size, 9, none⟩ = false := S0.out.v.blk.free 9
    have df10 : (wa).frozen? ⟨w.heap.size, 10, none⟩ = false := S0.out.v.blk.free 10
    have df11 : (wa).frozen? ⟨w.heap.size, 11, none⟩ = false := S0.out.v.blk.free 11
    have r0 : (wa).cell? ⟨w.heap.size + 1, 0, none⟩ = some (.int .i64 0) := S0.out.z.cell 0
    have r1 : (wa).cell? ⟨w.heap.size + 1, 1, none⟩ = some (.int .i64 0) := S0.out.z.cell 1
    have r2 : (wa).cell? ⟨w.heap.size + 1, 2, none⟩ = some (.slice none 0 0) := S0.out.z.cell 2
    have r3 : (wa).cell? ⟨w.heap.size + 1, 3, none⟩ = some (.slice none 0 0) := S0.out.z.cell 3
    have r4 : (wa).cell? ⟨w.heap.size + 1, 4, none⟩ = some (.slice none 0 0) := S0.out.z.cell 4
    have r5 : (wa).cell? ⟨w.heap.size + 1, 5, none⟩ = some (.int .i64 0) := S0.out.z.cell 5
    have r6 : (wa).cell? ⟨w.heap.size + 1, 6, none⟩ = some (.int .i64 0) := S0.out.z.cell 6
    have r7 : (wa).cell? ⟨w.heap.size + 1, 7, none⟩ = some (.int .i64 0) := S0.out.z.cell 7
    have r8 : (wa).cell? ⟨w.heap.size + 1, 8, none⟩ = some (.slice none 0 0) := S0.out.z.cell 8
    have r9 : (wa).cell? ⟨w.heap.size + 1, 9, none⟩ = some (.string ⟨#[]⟩) := S0.out.z.cell 9
    have r10 : (wa).cell? ⟨w.heap.size + 1, 10, none⟩ = some (.int .u64 0) := S0.out.z.cell 10
    have r11 : (wa).cell? ⟨w.heap.size + 1, 11, none⟩ = some (.int .u64 0) := S0.out.z.cell 11
    have rf0 : (wa).frozen? ⟨w.heap.size + 1, 0, none⟩ = false := S0.out.z.free 0
    have rf1 : (wa).frozen? ⟨w.heap.size + 1, 1, none⟩ = false := S0.out.z.free 1
    have rf2 : (wa).frozen? ⟨w.heap.size + 1, 2, none⟩ = false := S0.out.z.free 2
    have rf3 : (wa).frozen? ⟨w.heap.size + 1, 3, none⟩ = false := S0.out.z.free 3
    have rf4 : (wa).frozen? ⟨w.heap.size + 1, 4, none⟩ = false := S0.out.z.free 4
    have rf5 : (wa).frozen? ⟨w.heap.size + 1, 5, none⟩ = false := S0.out.z.free 5
    have rf6 : (wa).frozen? ⟨w.heap.size + 1, 6, none⟩ = false := S0.out.z.free 6
    have rf7 : (wa).frozen? ⟨w.heap.size + 1, 7, none⟩ = false := S0.out.z.free 7
    have rf8 : (wa).frozen? ⟨w.heap.size + 1, 8, none⟩ = false := S0.out.z.free 8
    have rf9 : (wa).frozen? ⟨w.heap.size + 1, 9, none⟩ = false := S0.out.z.free 9
    have rf10 : (wa).frozen? ⟨w.heap.size + 1, 10, none⟩ = false := S0.out.z.free 10
    have rf11 : (wa).frozen? ⟨w.heap.size + 1, 11, none⟩ = false := S0.out.z.free 11
    have HF := Lib.hid (S0.out.ret S0.out.v.val)
    clear S0
    unfold rlC at HF
    go_wp2_with fail
    exact bodyPost_ret (results_cell2 rfl _ _ (w.heap.size + 1) rfl HF.out.1 logTy) rfl ⟨_, rfl, HF.out.2.1, HF.out.2.2⟩
  · have hsi : ¬ (l.last : Int) < (seq : Int) := by omega
    have HS := Lib.hid hs
    have OLD : Hid (Sl (fun b => kindAt w b = some (some 89) ∧ b < w.heap.size) w 3 (.slice A4 l.live.length c4) l.live.length (sgcs l.live)) := Sl.more HG.out fun b h => ⟨h, kind_lt h⟩
    clear hs
    unfold rlC at *
    go_enter Tryz.func13, Tryz.ntmps13
    go_upto_region 3 with (fail)
    generalize hwa : World.alloc (World.alloc w _) _ = wa at *
    clear hwa
    have T0 : Hid (RtSt w (wa.alloc (.cells #[] 89)) l seq 0 A1 c1 A2 c2 A3 c3 A4 c4 (.slice (some ⟨wa.heap.size, 0, none⟩) 0 0)) := by
      have qa := (Below.refl wa.heap.size wa).alloc (Nat.le_refl _) (.cells #[] 89)
      have o1 := old_keep OLD.out (w2 := wa) fun b h0 h1 => S0.out.below.block b h1
      have o2 := old_keep o1 (w2 := wa.alloc (.cells #[] 89)) fun b h0 h1 => qa.block b (kind_lt h0)
      refine ⟨?_, o2, own_lower (World.ownsRow_made wa #[] 0 (Nat.le_refl _) (by simp [maxLen]) (by simp)) S0.out.below.size⟩
      have f0 := S0.out.to qa
      unfold rtL
      rw [trS_zero, List.take_zero]
      exact f0
    clear S0 HG OLD
    go_wp2_with fail
    generalize hwb : wa.alloc _ = wb at *
    clear hwb
    generalize wa.heap.size = g9 at *
    go_loopw [6, 7] (fun ov kv wq => ∃ (i : Nat) (A1 : Option Addr) (c1 : Nat) (A2 : Option Addr) (c2 : Nat) (A3 : Option Addr) (c3 : Nat) (A5 : Option Addr) (k5 c5 : Nat), ov = .slice A5 k5 c5 ∧ kv = .int .i64 (i : Int) ∧ i ≤ l.live.length ∧ Hid (RtSt w wq l seq i A1 c1 A2 c2 A3 c3 A4 c4 (.slice A5 k5 c5))) (fun _ kv _ => l.live.length - (intOf kv).toNat)
    case atStart => exact ⟨0, _, _, _, _, _, _, _, _, _, rfl, rfl, Nat.zero_le _, T0⟩
    case round =>
      obtain ⟨i, A1, c1, A2, c2, A3, c3, A5, k5, c5, rfl, rfl, hi, TS⟩ := hrel
      clear T0
      have HED : Hid ((rtL l seq i).D = wTruncD l.D l.a l.size seq (l.live.take i)) := rfl
      have HTE : Hid ((rtL l seq i).stream = trS l seq i) := rfl
      have HLS : Hid (rtL l seq i = ⟨(rtL l seq i).D, l.a, l.n, l.size, l.live, (rtL l seq i).stream, l.last, l.synced⟩) := rfl
      by_cases hil : i < l.live.length
      · skip
        have l8 : wr.cell? ⟨w.heap.size, 8, none⟩ = some (.slice A4 l.live.length c4) := TS.out.f.v.blk.cell 8
        obtain ⟨_, _, _, hv9, _, _, _, hA9⟩ := TS.out.old
        injection hv9 with e1 _ e3
        subst e1 e3
        obtain ⟨b, o, rfl, hkb, hc9⟩ := hA9 (by omega)
        obtain ⟨q0, q1, q2⟩ := sgcs_get l.live i hil
        have x0 := hc9 _ _ q0
        have x1 := hc9 _ _ q1
        have x2 := hc9 _ _ q2
        rw [← Nat.add_assoc] at x1 x2
        have hx : l.live[i]? = some l.live[i] := List.getElem?_eq_getElem hil
        have HIL : Hid (i < l.live.length) := hil
        have hi64 : i ≤ 64 := by have := hln.out; omega
        have HX := Lib.hid hx
        clear hc9 q0 q1 q2 hx hA9
        generalize l.live[i] = x at *
        have TA := Lib.hid (TS.out.later ((Below.refl _ _).alloc (Nat.le_refl _) (.cells #[.int .i64 (x.at' : Int), .int .u64 (x.base : Int), .int .u64 (x.count : Int)] 89)))
        have BX := Lib.hid (Blk.new wr 89 #[.int .i64 (x.at' : Int), .int .u64 (x.base : Int), .int .u64 (x.count : Int)])
        go_upto_region 8 with (fail)
        have hmem : Hid (x ∈ l.live) := List.mem_of_getElem? HX.out
        have hxn : x.at' ≤ 64 := by have h1 := OK.out.lt x hmem.out; have h2 := OK.out.n64; omega
        have OKD : Hid ((wTruncD l.D l.a l.size seq (l.live.take i)).Ok) := wTruncD_ok OK.out.dok _ _ _ _
        have PED : Hid ((wTruncD l.D l.a l.size seq (l.live.take i)).pend.length ≤ 900000) := by
          have h1 := wTruncD_pend l.D l.a l.size seq (l.live.take i)
          have h2 : (l.live.take i).length * l.size ≤ 64 * 64 := Nat.mul_le_mul (by rw [List.length_take]; have := hln.out; omega) OK.out.s64
          have h3 := HP.out
          rw [Hid]
          omega
        have hq := u64_add x.base x.count
        have hp1 := u64_pred ((x.base + x.count) % U64)
        rw [Nat.mod_add_mod] at hp1
        obtain ⟨m1, hm1⟩ : ∃ m1, (x.base + x.count) % U64 = m1 := ⟨_, rfl⟩
        obtain ⟨m2, hm2⟩ : ∃ m2, (x.base + x.count + (U64 - 1)) % U64 = m2 := ⟨_, rfl⟩
        have hst : Hid (x.stays seq = (decide (0 < x.count) && decide (seq < m2))) := by rw [Hid, ← hm2]; rfl
        rw [hm1] at hq hp1
        rw [hm2] at hp1
        clear hm1 hm2 x0 x1 x2 TS l8
        generalize hg8 : wr.heap.size = g8 at *
        generalize hwa : wr.alloc _ = wa at *
        have t0 : wa.cell? ⟨g8, 0, none⟩ = some (.int .i64 (x.at' : Int)) := BX.out.cell 0
        have t1 : wa.cell? ⟨g8, 1, none⟩ = some (.int .u64 (x.base : Int)) := BX.out.cell 1
        have t2 : wa.cell? ⟨g8, 2, none⟩ = some (.int .u64 (x.count : Int)) := BX.out.cell 2
        clear hg8 hwa
        by_cases hstay : 0 < x.count ∧ seq < m2
        · have hs : Hid (x.stays seq = true) := by rw [Hid, hst.out]; simp [hstay]
          have h1 : (0 : Int) < (x.count : Int) := by have := hstay.1; omega
          have h2 : (seq : Int) < (m2 : Int) := by have := hstay.2; omega
          have M1 : Hid ((stayL l seq i).length + 1 ≤ maxLen ∧ ((stayL l seq i).length + 1) * 24 ≤ 140737488355328) := by
            have h9 := List.length_filter_le (·.stays seq) (l.live.take i)
            rw [List.length_take] at h9
            have := hln.out
            have h8 : (stayL l seq i).length ≤ 64 := by unfold stayL; omega
            rw [Hid]
            simp only [maxLen]
            omega
          have TB := Lib.hid (TA.out.later ((Below.refl _ _).alloc (Nat.le_refl _) (.cells #[.int .i64 (x.at' : Int), .int .u64 (x.base : Int), .int .u64 (x.count : Int)] 89)))
          have M3 := Lib.hid TB.out.f.below.size
          clear hstay
          go_wp2_with (at_builtin; refine wpList_append_sl _ rfl (.tmp 40) (.tmp 42) elemRsg rfl TB.out.own (Sl.newrsg wa x rfl) rfl rfl (sgC_one x) M1.out.1 M1.out.2 M3.out ?_; intro A8 k8 c8 w8 hown8 hg8 hat8)
          have TS8 := Lib.hid (TB.out.stay HX.out hs.out hown8 hg8)
          clear hown8 hg8 hat8
          go_roundw
          case rel => exact ⟨i + 1, A1, c1, A2, c2, A3, c3, A8, k8, c8, rfl, by go_num, HIL.out, TS8⟩
          case measure => have := HIL.out; simp [intOf]; omega
        · have hs : Hid (x.stays seq = false) := by
            rw [Hid, hst.out]
            by_cases h9 : 0 < x.count
            · have h8 : ¬ seq < m2 := fun h => hstay ⟨h9, h⟩
              simp [h8]
            · simp [h9]
          obtain ⟨E0, hE0⟩ : ∃ E0, (rtL l seq i).D = E0 := ⟨_, rfl⟩
          obtain ⟨S9, hS9⟩ : ∃ S9, (rtL l seq i).stream = S9 := ⟨_, rfl⟩
          have HLE : Hid (rtL l seq i = ⟨E0, l.a, l.n, l.size, l.live, S9, l.last, l.synced⟩) := by rw [HLS.out, hE0, hS9]; exact rfl
          have hE1 : wTruncD l.D l.a l.size seq (l.live.take i) = E0 := hE0
          rw [hE1] at OKD PED
          have HE1 := Lib.hid hE1
          have hF := TA.out.f
          rw [HLE.out] at hF
          have SV := Lib.hid hF
          clear hE0 hS9 hE1 hF
          have d0 : (wa).cell? ⟨w.heap.size, 0, none⟩ = some (.int .i64 E0.size) := SV.out.v.blk.cell 0
          have d1 : (wa).cell? ⟨w.heap.size, 1, none⟩ = some (.int .i64 E0.limit) := SV.out.v.blk.cell 1
          have d2 : (wa).cell? ⟨w.heap.size, 2, none⟩ = some (.slice A1 E0.nv c1) := SV.out.v.blk.cell 2
          have d3 : (wa).cell? ⟨w.heap.size, 3, none⟩ = some (.slice A2 E0.ng c2) := SV.out.v.blk.cell 3
          have d4 : (wa).cell? ⟨w.heap.size, 4, none⟩ = some (.slice A3 E0.pend.length c3) := SV.out.v.blk.cell 4
          have d5 : (wa).cell? ⟨w.heap.size, 5, none⟩ = some (.int .i64 l.a) := SV.out.v.blk.cell 5
          have d6 : (wa).cell? ⟨w.heap.size, 6, none⟩ = some (.int .i64 (l.n : Int)) := SV.out.v.blk.cell 6
          have d7 : (wa).cell? ⟨w.heap.size, 7, none⟩ = some (.int .i64 (l.size : Int)) := SV.out.v.blk.cell 7
          have d8 : (wa).cell? ⟨w.heap.size, 8, none⟩ = some (.slice (some ⟨b, o, none⟩) l.live.length c4) := SV.out.v.blk.cell 8
          have d9 : (wa).cell? ⟨w.heap.size, 9, none⟩ = some (.string (st S9)) := SV.out.v.blk.cell 9
          have d10 : (wa).cell? ⟨w.heap.size, 10, none⟩ = some (.int .u64 (l.last : Int)) := SV.out.v.blk.cell 10
          have d11 : (wa).cell? ⟨w.heap.size, 11, none⟩ = some (.int .u64 (l.synced : Int)) := SV.out.v.blk.cell 11
          have df0 : (wa).frozen? ⟨w.heap.size, 0, none⟩ = false := SV.out.v.blk.free 0
          have df1 : (wa).frozen? ⟨w.heap.size, 1, none⟩ = false := SV.out.v.blk.free 1
          have df2 : (wa).frozen? ⟨w.heap.size, 2, none⟩ = false := SV.out.v.blk.free 2
          have df3 : (wa).frozen? ⟨w.heap.size, 3, none⟩ = false := SV.out.v.blk.free 3
          have df4 : (wa).frozen? ⟨w.heap.size, 4, none⟩ = false := SV.out.v.blk.free 4
          have df5 : (wa).frozen? ⟨w.heap.size, 5, none⟩ = false := SV.out.v.blk.free 5
          have df6 : (wa).frozen? ⟨w.heap.size, 6, none⟩ = false := SV.out.v.blk.free 6
          have df7 : (wa).frozen? ⟨w.heap.size, 7, none⟩ = false := SV.out.v.blk.free 7
          have df8 : (wa).frozen? ⟨w.heap.size, 8, none⟩ = false := SV.out.v.blk.free 8
          have df9 : (wa).frozen? ⟨w.heap.size, 9, none⟩ = false := SV.out.v.blk.free 9
          have df10 : (wa).frozen? ⟨w.heap.size, 10, none⟩ = false := SV.out.v.blk.free 10
          have df11 : (wa).frozen? ⟨w.heap.size, 11, none⟩ = false := SV.out.v.blk.free 11
          have OKE : Hid (Wl.Ok ⟨E0, l.a, l.n, l.size, l.live, [], l.last, l.synced⟩) := ⟨OKD.out, OK.out.n2, OK.out.n64, OK.out.s1, OK.out.s64, OK.out.a0, OK.out.a1, OK.out.last, OK.out.synced, OK.out.nd, OK.out.lt, fun h => absurd rfl h, Nat.zero_le _⟩
          have HCF : Hid (Calls Tryz.prog 33 #[.agg (rlC ⟨E0, l.a, l.n, l.size, l.live, S9, l.last, l.synced⟩ A1 c1 A2 c2 A3 c3 (some ⟨b, o, none⟩) c4), .int .i64 (x.at' : Int)] wa fun e w' => ∃ B1 d1 B2 d2 B3 d3, e = .returned (.agg (rlC ⟨wFree E0 (l.a + (x.at' : Int) * l.size) l.size, l.a, l.n, l.size, l.live, S9, l.last, l.synced⟩ B1 d1 B2 d2 B3 d3 (some ⟨b, o, none⟩) c4)) ∧
              RDd w' (.agg #[.int .i64 (wFree E0 (l.a + (x.at' : Int) * l.size) l.size).size, .int .i64 (wFree E0 (l.a + (x.at' : Int) * l.size) l.size).limit, .slice B1 (wFree E0 (l.a + (x.at' : Int) * l.size) l.size).nv d1, .slice B2 (wFree E0 (l.a + (x.at' : Int) * l.size) l.size).ng d2, .slice B3 (wFree E0 (l.a + (x.at' : Int) * l.size) l.size).pend.length d3]) (wFree E0 (l.a + (x.at' : Int) * l.size) l.size) ∧
              Rgr w' (.slice (some ⟨b, o, none⟩) l.live.length c4) l.live ∧ Below wa.heap.size wa w') :=
            refWFree_at2 ⟨E0, l.a, l.n, l.size, l.live, S9, l.last, l.synced⟩ x.at' wa A1 c1 A2 c2 A3 c3 (some ⟨b, o, none⟩) c4 SV.out.v.rd SV.out.v.rg OKE.out hxn PED.out
          unfold rlC at HCF
          by_cases hcz : 0 < x.count
          · have h1 : (0 : Int) < (x.count : Int) := by omega
            have h2 : ¬ (seq : Int) < (m2 : Int) := fun h => hstay ⟨hcz, by omega⟩
            clear hcz hstay
            go_wp2_with fail
            refine HCF.out.mono ?_
            rintro e w5 ⟨B1, d1', B2, d2', B3, d3', rfl, hD5, hG5, hb5⟩
            have TS5 := Lib.hid (TA.out.later hb5)
            have BX5 := Lib.hid (BX.out.later hb5)
            have HE2 : Hid (wFree (wTruncD l.D l.a l.size seq (l.live.take i)) (l.a + (x.at' : Int) * l.size) l.size = wFree E0 (l.a + (x.at' : Int) * l.size) l.size) := by rw [HE1.out]; exact rfl
            obtain ⟨E', hE'⟩ : ∃ E', wFree E0 (l.a + (x.at' : Int) * l.size) l.size = E' := ⟨_, rfl⟩
            rw [hE'] at hD5 HE2 ⊢
            have TN := TS5.out.free HX.out hs.out HE2.out hD5
            rw [HLE.out] at TN
            have TN1 := Lib.hid TN.1
            have TN2 := Lib.hid TN.2
            have SV5 := SV.out.to hb5
            have p0 : (w5).cell? ⟨w.heap.size, 0, none⟩ = some (.int .i64 E0.size) := SV5.v.blk.cell 0
            have p1 : (w5).cell? ⟨w.heap.size, 1, none⟩ = some (.int .i64 E0.limit) := SV5.v.blk.cell 1
            have p2 : (w5).cell? ⟨w.heap.size, 2, none⟩ = some (.slice A1 E0.nv c1) := SV5.v.blk.cell 2
            have p3 : (w5).cell? ⟨w.heap.size, 3, none⟩ = some (.slice A2 E0.ng c2) := SV5.v.blk.cell 3
            have p4 : (w5).cell? ⟨w.heap.size, 4, none⟩ = some (.slice A3 E0.pend.length c3) := SV5.v.blk.cell 4
            have p5 : (w5).cell? ⟨w.heap.size, 5, none⟩ = some (.int .i64 l.a) := SV5.v.blk.cell 5
            have p6 : (w5).cell? ⟨w.heap.size, 6, none⟩ = some (.int .i64 (l.n : Int)) := SV5.v.blk.cell 6
            have p7 : (w5).cell? ⟨w.heap.size, 7, none⟩ = some (.int .i64 (l.size : Int)) := SV5.v.blk.cell 7
            have p8 : (w5).cell? ⟨w.heap.size, 8, none⟩ = some (.slice (some ⟨b, o, none⟩) l.live.length c4) := SV5.v.blk.cell 8
            have p9 : (w5).cell? ⟨w.heap.size, 9, none⟩ = some (.string (st S9)) := SV5.v.blk.cell 9
            have p10 : (w5).cell? ⟨w.heap.size, 10, none⟩ = some (.int .u64 (l.last : Int)) := SV5.v.blk.cell 10
            have p11 : (w5).cell? ⟨w.heap.size, 11, none⟩ = some (.int .u64 (l.synced : Int)) := SV5.v.blk.cell 11
            have pf0 : (w5).frozen? ⟨w.heap.size, 0, none⟩ = false := SV5.v.blk.free 0
            have pf1 : (w5).frozen? ⟨w.heap.size, 1, none⟩ = false := SV5.v.blk.free 1
            have pf2 : (w5).frozen? ⟨w.heap.size, 2, none⟩ = false := SV5.v.blk.free 2
            have pf3 : (w5).frozen? ⟨w.heap.size, 3, none⟩ = false := SV5.v.blk.free 3
            have pf4 : (w5).frozen? ⟨w.heap.size, 4, none⟩ = false := SV5.v.blk.free 4
            have pf5 : (w5).frozen? ⟨w.heap.size, 5, none⟩ = false := SV5.v.blk.free 5
            have pf6 : (w5).frozen? ⟨w.heap.size, 6, none⟩ = false := SV5.v.blk.free 6
            have pf7 : (w5).frozen? ⟨w.heap.size, 7, none⟩ = false := SV5.v.blk.free 7
            have pf8 : (w5).frozen? ⟨w.heap.size, 8, none⟩ = false := SV5.v.blk.free 8
            have pf9 : (w5).frozen? ⟨w.heap.size, 9, none⟩ = false := SV5.v.blk.free 9
            have pf10 : (w5).frozen? ⟨w.heap.size, 10, none⟩ = false := SV5.v.blk.free 10
            have pf11 : (w5).frozen? ⟨w.heap.size, 11, none⟩ = false := SV5.v.blk.free 11
            clear hE' TN SV5 hD5 hG5 hb5 d0 d1 d2 d3 d4 d5 d6 d7 d8 d9 d10 d11 df0 df1 df2 df3 df4 df5 df6 df7 df8 df9 df10 df11 t0 t1 t2 HCF
            unfold putL rlC at TN1 TN2
            have hlnb := hln.out
            by_cases hlast : i + 1 = l.live.length
            · have hl1 : IntKind.i64.wrap ((l.live.length : Int) - 1) = (i : Int) := by rw [← hlast, i64_in (by omega) (by omega)]; omega
              have TNN := Lib.hid (TN2.out hlast)
              clear hlnb hlast TN1 TN2
              go_wp2_with fail
              go_roundw
              case rel => exact ⟨i + 1, B1, d1', B2, d2', B3, d3', A5, k5, c5, rfl, by go_num, HIL.out, TNN⟩
              case measure => have := HIL.out; simp [intOf]; omega
            · have hl1 : IntKind.i64.wrap ((l.live.length : Int) - 1) = (l.live.length : Int) - 1 := i64_in (by omega) (by omega)
              have hl2 : ((i : Int) == (l.live.length : Int) - 1) = false := by rw [beq_eq_false_iff_ne]; omega
              have hl3 : ¬ (i : Int) = (l.live.length : Int) - 1 := by omega
              have TNN := Lib.hid (TN1.out hlast)
              clear hlnb hlast TN1 TN2
              go_wp2_with fail
              go_roundw
              case rel => exact ⟨i + 1, B1, d1', B2, d2', B3, d3', A5, k5, c5, rfl, by go_num, HIL.out, TNN⟩
              case measure => have := HIL.out; simp [intOf]; omega
          · have h1 : ¬ (0 : Int) < (x.count : Int) := by omega
            have h2 : decide ((0 : Int) < (x.count : Int)) = false := decide_eq_false h1
            clear hcz hstay
            go_wp2_with fail
            refine HCF.out.mono ?_
            rintro e w5 ⟨B1, d1', B2, d2', B3, d3', rfl, hD5, hG5, hb5⟩
            have TS5 := Lib.hid (TA.out.later hb5)
            have BX5 := Lib.hid (BX.out.later hb5)
            have HE2 : Hid (wFree (wTruncD l.D l.a l.size seq (l.live.take i)) (l.a + (x.at' : Int) * l.size) l.size = wFree E0 (l.a + (x.at' : Int) * l.size) l.size) := by rw [HE1.out]; exact rfl
            obtain ⟨E', hE'⟩ : ∃ E', wFree E0 (l.a + (x.at' : Int) * l.size) l.size = E' := ⟨_, rfl⟩
            rw [hE'] at hD5 HE2 ⊢
            have TN := TS5.out.free HX.out hs.out HE2.out hD5
            rw [HLE.out] at TN
            have TN1 := Lib.hid TN.1
            have TN2 := Lib.hid TN.2
            have SV5 := SV.out.to hb5
            have p0 : (w5).cell? ⟨w.heap.size, 0, none⟩ = some (.int .i64 E0.size) := SV5.v.blk.cell 0
            have p1 : (w5).cell? ⟨w.heap.size, 1, none⟩ = some (.int .i64 E0.limit) := SV5.v.blk.cell 1
            have p2 : (w5).cell? ⟨w.heap.size, 2, none⟩ = some (.slice A1 E0.nv c1) := SV5.v.blk.cell 2
            have p3 : (w5).cell? ⟨w.heap.size, 3, none⟩ = some (.slice A2 E0.ng c2) := SV5.v.blk.cell 3
            have p4 : (w5).cell? ⟨w.heap.size, 4, none⟩ = some (.slice A3 E0.pend.length c3) := SV5.v.blk.cell 4
            have p5 : (w5).cell? ⟨w.heap.size, 5, none⟩ = some (.int .i64 l.a) := SV5.v.blk.cell 5
            have p6 : (w5).cell? ⟨w.heap.size, 6, none⟩ = some (.int .i64 (l.n : Int)) := SV5.v.blk.cell 6
            have p7 : (w5).cell? ⟨w.heap.size, 7, none⟩ = some (.int .i64 (l.size : Int)) := SV5.v.blk.cell 7
            have p8 : (w5).cell? ⟨w.heap.size, 8, none⟩ = some (.slice (some ⟨b, o, none⟩) l.live.length c4) := SV5.v.blk.cell 8
            have p9 : (w5).cell? ⟨w.heap.size, 9, none⟩ = some (.string (st S9)) := SV5.v.blk.cell 9
            have p10 : (w5).cell? ⟨w.heap.size, 10, none⟩ = some (.int .u64 (l.last : Int)) := SV5.v.blk.cell 10
            have p11 : (w5).cell? ⟨w.heap.size, 11, none⟩ = some (.int .u64 (l.synced : Int)) := SV5.v.blk.cell 11
            have pf0 : (w5).frozen? ⟨w.heap.size, 0, none⟩ = false := SV5.v.blk.free 0
            have pf1 : (w5).frozen? ⟨w.heap.size, 1, none⟩ = false := SV5.v.blk.free 1
            have pf2 : (w5).frozen? ⟨w.heap.size, 2, none⟩ = false := SV5.v.blk.free 2
            have pf3 : (w5).frozen? ⟨w.heap.size, 3, none⟩ = false := SV5.v.blk.free 3
            have pf4 : (w5).frozen? ⟨w.heap.size, 4, none⟩ = false := SV5.v.blk.free 4
            have pf5 : (w5).frozen? ⟨w.heap.size, 5, none⟩ = false := SV5.v.blk.free 5
            have pf6 : (w5).frozen? ⟨w.heap.size, 6, none⟩ = false := SV5.v.blk.free 6
            have pf7 : (w5).frozen? ⟨w.heap.size, 7, none⟩ = false := SV5.v.blk.free 7
            have pf8 : (w5).frozen? ⟨w.heap.size, 8, none⟩ = false := SV5.v.blk.free 8
            have pf9 : (w5).frozen? ⟨w.heap.size, 9, none⟩ = false := SV5.v.blk.free 9
            have pf10 : (w5).frozen? ⟨w.heap.size, 10, none⟩ = false := SV5.v.blk.free 10
            have pf11 : (w5).frozen? ⟨w.heap.size, 11, none⟩ = false := SV5.v.blk.free 11
            clear hE' TN SV5 hD5 hG5 hb5 d0 d1 d2 d3 d4 d5 d6 d7 d8 d9 d10 d11 df0 df1 df2 df3 df4 df5 df6 df7 df8 df9 df10 df11 t0 t1 t2 HCF
            unfold putL rlC at TN1 TN2
            have hlnb := hln.out
            by_cases hlast : i + 1 = l.live.length
            · have hl1 : IntKind.i64.wrap ((l.live.length : Int) - 1) = (i : Int) := by rw [← hlast, i64_in (by omega) (by omega)]; omega
              have TNN := Lib.hid (TN2.out hlast)
              clear hlnb hlast TN1 TN2
              go_wp2_with fail
              go_roundw
              case rel => exact ⟨i + 1, B1, d1', B2, d2', B3, d3', A5, k5, c5, rfl, by go_num, HIL.out, TNN⟩
              case measure => have := HIL.out; simp [intOf]; omega
            · have hl1 : IntKind.i64.wrap ((l.live.length : Int) - 1) = (l.live.length : Int) - 1 := i64_in (by omega) (by omega)
              have hl2 : ((i : Int) == (l.live.length : Int) - 1) = false := by rw [beq_eq_false_iff_ne]; omega
              have hl3 : ¬ (i : Int) = (l.live.length : Int) - 1 := by omega
              have TNN := Lib.hid (TN1.out hlast)
              clear hlnb hlast TN1 TN2
              go_wp2_with fail
              go_roundw
              case rel => exact ⟨i + 1, B1, d1', B2, d2', B3, d3', A5, k5, c5, rfl, by go_num, HIL.out, TNN⟩
              case measure => have := HIL.out; simp [intOf]; omega
      · obtain rfl : l.live.length = i := by omega
        obtain rfl := own_len TS.out.own
        have E : Hid (wTrunc l seq = (({ (rtL l seq l.live.length) with live := stayL l seq l.live.length } : Wl).sync, 0)) := by
          rw [Hid]
          unfold wTrunc rtL stayL
          rw [if_neg HS.out, trS_end, List.take_length]
        have F2 := Lib.hid (TS.out.f.setLive (KSl.of_own (by omega) TS.out.own))
        have l8 : wr.cell? ⟨w.heap.size, 8, none⟩ = some (.slice A4 l.live.length c4) := TS.out.f.v.blk.cell 8
        have f8 := TS.out.f.v.blk.free 8
        generalize hXL : rtL l seq l.live.length = XL at *
        have F8 := Lib.hid F2.out.v.blk
        clear HED HTE HLS TS hXL
        go_upto_region 14 with fail
        generalize hW2 : World.setCell wr _ _ = W2 at *
        clear hW2 l8 f8
        generalize stayL l seq l.live.length = SL at *
        have d0 : (W2).cell? ⟨w.heap.size, 0, none⟩ = some (.int .i64 XL.D.size) := F8.out.cell 0
        have d1 : (W2).cell? ⟨w.heap.size, 1, none⟩ = some (.int .i64 XL.D.limit) := F8.out.cell 1
        have d2 : (W2).cell? ⟨w.heap.size, 2, none⟩ = some (.slice A1 XL.D.nv c1) := F8.out.cell 2
        have d3 : (W2).cell? ⟨w.heap.size, 3, none⟩ = some (.slice A2 XL.D.ng c2) := F8.out.cell 3
        have d4 : (W2).cell? ⟨w.heap.size, 4, none⟩ = some (.slice A3 XL.D.pend.length c3) := F8.out.cell 4
        have d5 : (W2).cell? ⟨w.heap.size, 5, none⟩ = some (.int .i64 XL.a) := F8.out.cell 5
        have d6 : (W2).cell? ⟨w.heap.size, 6, none⟩ = some (.int .i64 (XL.n : Int)) := F8.out.cell 6
        have d7 : (W2).cell? ⟨w.heap.size, 7, none⟩ = some (.int .i64 (XL.size : Int)) := F8.out.cell 7
        have d8 : (W2).cell? ⟨w.heap.size, 8, none⟩ = some (.slice A5 SL.length c5) := F8.out.cell 8
        have d9 : (W2).cell? ⟨w.heap.size, 9, none⟩ = some (.string (st XL.stream)) := F8.out.cell 9
        have d10 : (W2).cell? ⟨w.heap.size, 10, none⟩ = some (.int .u64 (XL.last : Int)) := F8.out.cell 10
        have d11 : (W2).cell? ⟨w.heap.size, 11, none⟩ = some (.int .u64 (XL.synced : Int)) := F8.out.cell 11
        have df0 : (W2).frozen? ⟨w.heap.size, 0, none⟩ = false := F8.out.free 0
        have df1 : (W2).frozen? ⟨w.heap.size, 1, none⟩ = false := F8.out.free 1
        have df2 : (W2).frozen? ⟨w.heap.size, 2, none⟩ = false := F8.out.free 2
        have df3 : (W2).frozen? ⟨w.heap.size, 3, none⟩ = false := F8.out.free 3
        have df4 : (W2).frozen? ⟨w.heap.size, 4, none⟩ = false := F8.out.free 4
        have df5 : (W2).frozen? ⟨w.heap.size, 5, none⟩ = false := F8.out.free 5
        have df6 : (W2).frozen? ⟨w.heap.size, 6, none⟩ = false := F8.out.free 6
        have df7 : (W2).frozen? ⟨w.heap.size, 7, none⟩ = false := F8.out.free 7
        have df8 : (W2).frozen? ⟨w.heap.size, 8, none⟩ = false := F8.out.free 8
        have df9 : (W2).frozen? ⟨w.heap.size, 9, none⟩ = false := F8.out.free 9
        have df10 : (W2).frozen? ⟨w.heap.size, 10, none⟩ = false := F8.out.free 10
        have df11 : (W2).frozen? ⟨w.heap.size, 11, none⟩ = false := F8.out.free 11
        go_wp2_with fail
        refine (refWSync_any _ _ W2 F2.out.v.val).mono ?_
        rintro e w6 ⟨v6, rfl, hr6, hb6⟩
        have F6 := F2.out.to hb6
        have HR6 := Lib.hid hr6
        obtain ⟨B1, d1', B2, d2', B3, d3', B4, d4', rfl, hD6, hG6⟩ := hr6
        have HF := Lib.hid (F6.ret HR6.out)
        have Z6 := Lib.hid F6.z
        clear F6 hD6 hG6 d0 d1 d2 d3 d4 d5 d6 d7 d8 d9 d10 d11 df0 df1 df2 df3 df4 df5 df6 df7 df8 df9 df10 df11
        have r0 : (w6).cell? ⟨w.heap.size + 1, 0, none⟩ = some (.int .i64 0) := Z6.out.cell 0
        have r1 : (w6).cell? ⟨w.heap.size + 1, 1, none⟩ = some (.int .i64 0) := Z6.out.cell 1
        have r2 : (w6).cell? ⟨w.heap.size + 1, 2, none⟩ = some (.slice none 0 0) := Z6.out.cell 2
        have r3 : (w6).cell? ⟨w.heap.size + 1, 3, none⟩ = some (.slice none 0 0) := Z6.out.cell 3
        have r4 : (w6).cell? ⟨w.heap.size + 1, 4, none⟩ = some (.slice none 0 0) := Z6.out.cell 4
        have r5 : (w6).cell? ⟨w.heap.size + 1, 5, none⟩ = some (.int .i64 0) := Z6.out.cell 5
        have r6 : (w6).cell? ⟨w.heap.size + 1, 6, none⟩ = some (.int .i64 0) := Z6.out.cell 6
        have r7 : (w6).cell? ⟨w.heap.size + 1, 7, none⟩ = some (.int .i64 0) := Z6.out.cell 7
        have r8 : (w6).cell? ⟨w.heap.size + 1, 8, none⟩ = some (.slice none 0 0) := Z6.out.cell 8
        have r9 : (w6).cell? ⟨w.heap.size + 1, 9, none⟩ = some (.string ⟨#[]⟩) := Z6.out.cell 9
        have r10 : (w6).cell? ⟨w.heap.size + 1, 10, none⟩ = some (.int .u64 0) := Z6.out.cell 10
        have r11 : (w6).cell? ⟨w.heap.size + 1, 11, none⟩ = some (.int .u64 0) := Z6.out.cell 11
        have rf0 : (w6).frozen? ⟨w.heap.size + 1, 0, none⟩ = false := Z6.out.free 0
        have rf1 : (w6).frozen? ⟨w.heap.size + 1, 1, none⟩ = false := Z6.out.free 1
        have rf2 : (w6).frozen? ⟨w.heap.size + 1, 2, none⟩ = false := Z6.out.free 2
        have rf3 : (w6).frozen? ⟨w.heap.size + 1, 3, none⟩ = false := Z6.out.free 3
        have rf4 : (w6).frozen? ⟨w.heap.size + 1, 4, none⟩ = false := Z6.out.free 4
        have rf5 : (w6).frozen? ⟨w.heap.size + 1, 5, none⟩ = false := Z6.out.free 5
        have rf6 : (w6).frozen? ⟨w.heap.size + 1, 6, none⟩ = false := Z6.out.free 6
        have rf7 : (w6).frozen? ⟨w.heap.size + 1, 7, none⟩ = false := Z6.out.free 7
        have rf8 : (w6).frozen? ⟨w.heap.size + 1, 8, none⟩ = false := Z6.out.free 8
        have rf9 : (w6).frozen? ⟨w.heap.size + 1, 9, none⟩ = false := Z6.out.free 9
        have rf10 : (w6).frozen? ⟨w.heap.size + 1, 10, none⟩ = false := Z6.out.free 10
        have rf11 : (w6).frozen? ⟨w.heap.size + 1, 11, none⟩ = false := Z6.out.free 11
        unfold rlC at HF
        unfold rlC
        go_wp2_with fail
        rw [E.out]
        exact bodyPost_ret (results_cell2 rfl _ _ (w.heap.size + 1) rfl HF.out.1 logTy) rfl ⟨_, rfl, HF.out.2.1, HF.out.2.2⟩
end Go.Proofs.YtojlldalhhibmaaGreatDoor

namespace Go.Proofs.YtojlldalhhibmaaGreatDoor
open Go Go.RowKit
set_option linter.unusedVariables false

theorem SameK.setAt {ks : List (Option TypeId)} {w : World} {p : Addr} {t : Option TypeId} (hk : kindAt w p.block = some t) (ht : t ∉ ks) (u : Value) : SameK ks w (w.setCell p u) := fun b t' ht' hb =>
  Below.heap_setCell w p u b fun e => by
    subst e
    exact SameK.not hk ht hb ht'
section
variable {w wr w2 w3 : World} {l n : Wl} {gn : Nat} {A1 A2 A3 A4 B1 B2 B3 B4 N1 N2 N3 N4 : Option Addr} {c1 c2 c3 c4 d1 d2 d3 d4 e1 e2 e3 e4 : Nat} {Z : Array Value}
theorem Lf.at (h : Lf w wr l A1 c1 A2 c2 A3 c3 A4 c4 Z) (hr : SameK rdKs wr w2) (hd : Blk w2 w.heap.size 43 (rlC l A1 c1 A2 c2 A3 c3 A4 c4)) (hz : Blk w2 (w.heap.size + 1) 43 Z) (hg : Rgr w2 (.slice A4 l.live.length c4) l.live) (hb : Below w.heap.size w w2) : Lf w w2 l A1 c1 A2 c2 A3 c3 A4 c4 Z :=
  ⟨⟨hd, h.v.rd.same hr, hg⟩, hz, hb⟩
/-- The whole log is put anew. -/
theorem Lf.setAll {l' : Wl} (h : Lf w wr l A1 c1 A2 c2 A3 c3 A4 c4 Z) (hD : RDd wr (.agg #[.int .i64 l'.D.size, .int .i64 l'.D.limit, .slice B1 l'.D.nv d1, .slice B2 l'.D.ng d2, .slice B3 l'.D.pend.length d3]) l'.D) (hG : Rgr wr (.slice B4 l'.live.length d4) l'.live) :
    Lf w (putL wr w.heap.size (rlC l' B1 d1 B2 d2 B3 d3 B4 d4)) l' B1 d1 B2 d2 B3 d3 B4 d4 Z :=
  ⟨put12_lv h.v hD hG, away12_blk h.z (by omega) _ _ _ _ _ _ _ _ _ _ _ _, below_put12 h.below (Nat.le_refl _) _ _ _ _ _ _ _ _ _ _ _ _⟩
end
/-- While a record is put: the log l (the parameter), the log n, whose segments are the call's own. -/
structure RaSt (w wr : World) (gn : Nat) (l n : Wl) (A1 : Option Addr) (c1 : Nat) (A2 : Option Addr) (c2 : Nat) (A3 : Option Addr) (c3 : Nat) (A4 : Option Addr) (c4 : Nat) (N1 : Option Addr) (e1 : Nat) (N2 : Option Addr) (e2 : Nat) (N3 : Option Addr) (e3 : Nat) (N4 : Option Addr) (e4 : Nat) : Prop where
  f : Lf w wr l A1 c1 A2 c2 A3 c3 A4 c4 zlog
  old : Sl (fun b => kindAt wr b = some (some 89) ∧ b < w.heap.size) wr 3 (.slice A4 l.live.length c4) l.live.length (sgcs l.live)
  nv : Lv wr gn n N1 e1 N2 e2 N3 e3 N4 e4
  own : wr.ownsRow w.heap.size 89 3 (.slice N4 n.live.length e4) n.live.length (sgcs n.live)
  gt : w.heap.size + 1 < gn
section
variable {w wr w2 w3 : World} {l n n' : Wl} {gn : Nat} {A1 A2 A3 A4 B1 B2 B3 B4 N1 N2 N3 N4 : Option Addr} {c1 c2 c3 c4 d1 d2 d3 d4 e1 e2 e3 e4 k : Nat}
theorem RaSt.later (s : RaSt w wr gn l n A1 c1 A2 c2 A3 c3 A4 c4 N1 e1 N2 e2 N3 e3 N4 e4) (hb : Below wr.heap.size wr w2) : RaSt w w2 gn l n A1 c1 A2 c2 A3 c3 A4 c4 N1 e1 N2 e2 N3 e3 N4 e4 :=
  ⟨s.f.to hb, old_keep s.old fun b h0 _ => hb.block b (kind_lt h0), s.nv.later hb, own_later s.own hb, s.gt⟩
/-- The row of segments is put anew. -/
theorem RaSt.row {v : Value} {m : Nat} {xs : List Value} {ys : List Sg} (F : Lf w wr l A1 c1 A2 c2 A3 c3 A4 c4 zlog)
    (O : Sl (fun b => kindAt wr b = some (some 89) ∧ b < w.heap.size) wr 3 (.slice A4 l.live.length c4) l.live.length (sgcs l.live)) (N : Lv wr gn n N1 e1 N2 e2 N3 e3 N4 e4) (gt : w.heap.size + 1 < gn)
    (own : wr.ownsRow w.heap.size 89 3 v m xs) (hown : w3.ownsRow w.heap.size 89 3 (.slice B4 k d4) ys.length (sgcs ys)) (hg : wr.grownBy w3 v.ownBlock) :
    RaSt w (w3.setCell ⟨gn, 8, none⟩ (.slice B4 k d4)) gn l { n with live := ys } A1 c1 A2 c2 A3 c3 A4 c4 N1 e1 N2 e2 N3 e3 B4 d4 := by
  have hk := own_len hown
  subst hk
  have h1 : SameK rdKs wr w3 := SameK.grown hg (own_not own (by decide))
  have o3 := old_keep O (w2 := w3) fun b h0 h1 => hg.block b (kind_lt h0) fun e => by have := (own.lt b e.symm).1; omega
  have b3 := N.blk.kept own hg (by decide)
  have f3 : Lf w w3 l A1 c1 A2 c2 A3 c3 A4 c4 zlog := F.at h1 (F.v.blk.kept own hg (by decide)) (F.z.kept own hg (by decide)) (o3.more fun b h => h.1) (below_grown_own F.below own hg F.below.size)
  have hs : SameK rlKs w3 (w3.setCell ⟨gn, 8, none⟩ (.slice B4 ys.length d4)) := SameK.setCell (p := ⟨gn, 8, none⟩) b3 (by decide) _
  have o4 := old_keep o3 (w2 := w3.setCell ⟨gn, 8, none⟩ (.slice B4 ys.length d4)) fun b h0 _ => hs b _ (by decide) h0
  have hS : Rgr w3 (.slice B4 ys.length d4) ys := KSl.of_own (by omega) hown
  exact ⟨f3.at (hs.less (by decide)) (f3.v.blk.other (by omega) _ _) (f3.z.other (by omega) _ _) (o4.more fun b h => h.1) (f3.below.setCell (by simp; omega) _), o4, ⟨b3.put 8 _, (N.rd.same h1).same (hs.less (by decide)), KSl.same hS hs (by decide)⟩, own_sameK hown hs (by decide), gt⟩
/-- A cell of n is put. -/
theorem RaSt.set (s : RaSt w wr gn l n A1 c1 A2 c2 A3 c3 A4 c4 N1 e1 N2 e2 N3 e3 N4 e4) (i : Nat) (u : Value) (hn : Lv (wr.setCell ⟨gn, i, none⟩ u) gn n' N1 e1 N2 e2 N3 e3 N4 e4) (hl : n'.live = n.live) :
    RaSt w (wr.setCell ⟨gn, i, none⟩ u) gn l n' A1 c1 A2 c2 A3 c3 A4 c4 N1 e1 N2 e2 N3 e3 N4 e4 := by
  have hs : SameK rlKs wr (wr.setCell ⟨gn, i, none⟩ u) := SameK.setCell (p := ⟨gn, i, none⟩) s.nv.blk (by decide) _
  have o4 := old_keep s.old (w2 := wr.setCell ⟨gn, i, none⟩ u) fun b h0 _ => hs b _ (by decide) h0
  have hgt := s.gt
  exact ⟨s.f.at (hs.less (by decide)) (s.f.v.blk.other (by omega) _ _) (s.f.z.other (by omega) _ _) (o4.more fun b h => h.1) (s.f.below.setCell (by simp; omega) _), o4, hn, by rw [hl]; exact own_sameK s.own hs (by decide), s.gt⟩
theorem RaSt.setStream (s : RaSt w wr gn l n A1 c1 A2 c2 A3 c3 A4 c4 N1 e1 N2 e2 N3 e3 N4 e4) (t : List UInt8) : RaSt w (wr.setCell ⟨gn, 9, none⟩ (.string (st t))) gn l { n with stream := t } A1 c1 A2 c2 A3 c3 A4 c4 N1 e1 N2 e2 N3 e3 N4 e4 := s.set 9 _ (s.nv.setStream t) rfl
theorem RaSt.setLast (s : RaSt w wr gn l n A1 c1 A2 c2 A3 c3 A4 c4 N1 e1 N2 e2 N3 e3 N4 e4) (q : Nat) : RaSt w (wr.setCell ⟨gn, 10, none⟩ (.int .u64 (q : Int))) gn l { n with last := q } A1 c1 A2 c2 A3 c3 A4 c4 N1 e1 N2 e2 N3 e3 N4 e4 := s.set 10 _ (s.nv.setLast q) rfl
theorem RaSt.setD (s : RaSt w wr gn l n A1 c1 A2 c2 A3 c3 A4 c4 N1 e1 N2 e2 N3 e3 N4 e4) {E : Dsk} (hd : RDd wr (.agg #[.int .i64 E.size, .int .i64 E.limit, .slice B1 E.nv d1, .slice B2 E.ng d2, .slice B3 E.pend.length d3]) E) :
    RaSt w (putD wr gn (.int .i64 E.size) (.int .i64 E.limit) (.slice B1 E.nv d1) (.slice B2 E.ng d2) (.slice B3 E.pend.length d3)) gn l { n with D := E } A1 c1 A2 c2 A3 c3 A4 c4 B1 d1 B2 d2 B3 d3 N4 e4 := by
  have hs : SameK rlKs wr (putD wr gn (.int .i64 E.size) (.int .i64 E.limit) (.slice B1 E.nv d1) (.slice B2 E.ng d2) (.slice B3 E.pend.length d3)) := SameK.puts5 s.nv.blk (by decide) _ _ _ _ _
  have o4 := old_keep s.old (w2 := putD wr gn (.int .i64 E.size) (.int .i64 E.limit) (.slice B1 E.nv d1) (.slice B2 E.ng d2) (.slice B3 E.pend.length d3)) fun b h0 _ => hs b _ (by decide) h0
  have hgt := s.gt
  exact ⟨s.f.at (hs.less (by decide)) (s.f.v.blk.away5 (by omega) _ _ _ _ _) (s.f.z.away5 (by omega) _ _ _ _ _) (o4.more fun b h => h.1) (below_put5 s.f.below (by omega) _ _ _ _ _), o4, s.nv.setD hd, own_sameK s.own hs (by decide), s.gt⟩
/-- The row of the last segment. -/
theorem rsg_last {B : Nat} {A : Option Addr} {c : Nat} {L0 : List Sg} {s0 : Sg} (h : w.ownsRow B 89 3 (.slice A (L0 ++ [s0]).length c) (L0 ++ [s0]).length (sgcs (L0 ++ [s0]))) : ∃ g, A = some ⟨g, 0, none⟩ ∧ B ≤ g ∧ Hid (∀ j, w.frozen? ⟨g, j, none⟩ = false) ∧
    w.cell? ⟨g, L0.length * 3, none⟩ = some (.int .i64 (s0.at' : Int)) ∧ w.cell? ⟨g, L0.length * 3 + 2, none⟩ = some (.int .u64 (s0.count : Int)) ∧ kindAt w g = some (some 89) := by
  have hs := Sl.of_own (by omega) h
  obtain ⟨_, A', c', hv, _, _, _, h6⟩ := hs
  obtain ⟨b, o, ha, ⟨hb1, hb2⟩, hc⟩ := h6 (by simp)
  cases hv
  subst ha
  rcases h.2 with ⟨h2, h3⟩ | ⟨g, cap, cur, h2, hg, hh, _⟩
  · simp at h3
  · injection h2 with e1 _ e3
    injection e1 with e1
    injection e1 with e1 e2
    subst e1 e2
    have hl : L0.length < (L0 ++ [s0]).length := by simp
    have hx : (L0 ++ [s0])[L0.length]'hl = s0 := by simp
    have := sgcs_get (L0 ++ [s0]) L0.length hl
    rw [hx] at this
    refine ⟨b, rfl, hb1, fun j => by simp [World.frozen?, hh], ?_, ?_, kind_own h (b := b) rfl⟩
    · have h9 := hc _ _ this.1
      rwa [Nat.zero_add] at h9
    · have h9 := hc _ _ this.2.2
      rwa [Nat.zero_add] at h9
/-- The last one's count goes up. -/
theorem RaSt.bump {L0 : List Sg} {s0 : Sg} {g : Nat} (s : RaSt w wr gn l n A1 c1 A2 c2 A3 c3 A4 c4 N1 e1 N2 e2 N3 e3 (some ⟨g, 0, none⟩) e4) (hL : n.live = L0 ++ [s0]) :
    RaSt w (wr.setCell ⟨g, L0.length * 3 + 2, none⟩ (.int .u64 (((s0.count + 1) % U64 : Nat) : Int))) gn l { n with live := bumpL n.live } A1 c1 A2 c2 A3 c3 A4 c4 N1 e1 N2 e2 N3 e3 (some ⟨g, 0, none⟩) e4 := by
  have hown := s.own
  have hk := kind_own hown (b := g) rfl
  have hB : w.heap.size ≤ g := (hown.lt g rfl).1
  have hr : SameK rdKs wr (wr.setCell ⟨g, L0.length * 3 + 2, none⟩ (.int .u64 (((s0.count + 1) % U64 : Nat) : Int))) := SameK.setAt (p := ⟨g, L0.length * 3 + 2, none⟩) hk (by decide) _
  have hg1 : some (some 89) ≠ some (some 43) := by decide
  have o4 := old_keep s.old (w2 := wr.setCell ⟨g, L0.length * 3 + 2, none⟩ (.int .u64 (((s0.count + 1) % U64 : Nat) : Int))) fun b h0 h1 => Below.heap_setCell wr ⟨g, L0.length * 3 + 2, none⟩ _ b (fun e => by simp at e; omega)
  have far : ∀ {b : Nat} {cs : Array Value}, Blk wr b 43 cs → Blk (wr.setCell ⟨g, L0.length * 3 + 2, none⟩ (.int .u64 (((s0.count + 1) % U64 : Nat) : Int))) b 43 cs := fun {b cs} hb =>
    hb.other (fun e => by subst e; exact hg1 (hk.symm.trans (kind_blk hb))) _ _
  have ho2 : (wr.setCell ⟨g, L0.length * 3 + 2, none⟩ (.int .u64 (((s0.count + 1) % U64 : Nat) : Int))).ownsRow w.heap.size 89 3 (.slice (some ⟨g, 0, none⟩) (bumpL n.live).length e4) (bumpL n.live).length (sgcs (bumpL n.live)) := by
    obtain ⟨a, b, k⟩ := s0
    rw [hL] at hown ⊢
    rw [bumpL_snoc, sgcs_count a b k]
    simp only [List.length_append, List.length_singleton] at hown ⊢
    exact (World.ownsRow.stored hown (L0.length * 3 + 2) _).1
  have hlen : (bumpL n.live).length = n.live.length := by have := congrArg List.length (bumpL_at n.live); simpa using this
  have hb := far s.nv.blk
  refine ⟨s.f.at hr (far s.f.v.blk) (far s.f.z) (o4.more fun b h => h.1) (s.f.below.setCell hB _), o4, ⟨?_, s.nv.rd.same hr, KSl.of_own (by omega) ho2⟩, ho2, s.gt⟩
  unfold rlC at hb ⊢
  simp only [hlen]
  exact hb
end
/-- What is written ahead of round k. -/
structure RpSt (D D' : Dsk) (p : Int) (b : List UInt8) (k0 k m : Nat) : Prop where
  ok : D'.Ok
  eq : wPut D p b b.length k0 = wPut D' p b m k
  fuel : b.length ≤ 512 * (k + m)
  pend : D'.pend.length + k0 ≤ D.pend.length + k
section
variable {D D' : Dsk} {p : Int} {b : List UInt8} {k0 k m : Nat}
theorem RpSt.step (h : RpSt D D' p b k0 k m) (hlt : 512 * k < b.length) (hw : D'.why (p + (k : Int)) ((b.drop (512 * k)).take 512) = 0) : ∃ m', RpSt D (D'.write (p + (k : Int)) ((b.drop (512 * k)).take 512)) p b k0 (k + 1) m' := by
  obtain ⟨m', rfl⟩ : ∃ m', m = m' + 1 := ⟨m - 1, by have := h.fuel; omega⟩
  refine ⟨m', h.ok.write _ _, ?_, by have := h.fuel; omega, ?_⟩
  · rw [h.eq, wPut, if_pos hlt, if_pos hw]
  · have h1 := dwrite_pend D' (p + (k : Int)) ((b.drop (512 * k)).take 512)
    have h2 := h.pend
    omega
theorem RpSt.stop (h : RpSt D D' p b k0 k m) (hlt : 512 * k < b.length) (hw : D'.why (p + (k : Int)) ((b.drop (512 * k)).take 512) ≠ 0) : wPut D p b b.length k0 = (D', D'.why (p + (k : Int)) ((b.drop (512 * k)).take 512)) ∧ D'.write (p + (k : Int)) ((b.drop (512 * k)).take 512) = D' := by
  obtain ⟨m', rfl⟩ : ∃ m', m = m' + 1 := ⟨m - 1, by have := h.fuel; omega⟩
  refine ⟨?_, ?_⟩
  · rw [h.eq, wPut, if_pos hlt, if_neg hw]
  · unfold Dsk.write
    rw [if_neg hw]
theorem RpSt.done (h : RpSt D D' p b k0 k m) (hge : ¬ 512 * k < b.length) : wPut D p b b.length k0 = (D', 0) := by
  rw [h.eq]
  cases m with
  | zero => rw [wPut]
  | succ m => rw [wPut, if_neg hge]
end
/-- The first segment that isn't in use, among those from j on. -/
def DwF (live : List Sg) (n j : Nat) (r : Int) : Prop := (r = -1 ∧ ∀ x, j ≤ x → x < n → usedL live x = true) ∨ ∃ k : Nat, r = (k : Int) ∧ j ≤ k ∧ k < n ∧ usedL live k = false ∧ ∀ x, j ≤ x → x < k → usedL live x = true
theorem DwF.start (live : List Sg) (n : Nat) : DwF live n n (-1) := .inl ⟨rfl, fun x h1 h2 => by omega⟩
theorem DwF.yes {live : List Sg} {n j : Nat} {r : Int} (h : DwF live n (j + 1) r) (hu : usedL live j = true) : DwF live n j r := by
  rcases h with ⟨h1, h2⟩ | ⟨k, h1, h2, h3, h4, h5⟩
  · refine .inl ⟨h1, fun x hx hn => ?_⟩
    rcases Nat.eq_or_lt_of_le hx with rfl | h9
    · exact hu
    · exact h2 x h9 hn
  · refine .inr ⟨k, h1, by omega, h3, h4, fun x hx hn => ?_⟩
    rcases Nat.eq_or_lt_of_le hx with rfl | h9
    · exact hu
    · exact h5 x h9 hn
theorem DwF.no {live : List Sg} {n j : Nat} (hj : j < n) (hu : usedL live j = false) : DwF live n j (j : Int) := .inr ⟨j, rfl, Nat.le_refl _, hj, hu, fun x h1 h2 => by omega⟩
theorem DwF.fresh {live : List Sg} {n : Nat} {r : Int} (h : DwF live n 0 r) : (r = -1 ∧ wFresh live n = none) ∨ ∃ k : Nat, r = (k : Int) ∧ k < n ∧ wFresh live n = some k := by
  rcases h with ⟨h1, h2⟩ | ⟨k, h1, h2, h3, h4, h5⟩
  · exact .inl ⟨h1, wFresh_none fun j hj => h2 j (Nat.zero_le _) hj⟩
  · exact .inr ⟨k, h1, h3, wFresh_at h3 (fun j hj => h5 j (Nat.zero_le _) hj) h4⟩
end Go.Proofs.YtojlldalhhibmaaGreatDoor
