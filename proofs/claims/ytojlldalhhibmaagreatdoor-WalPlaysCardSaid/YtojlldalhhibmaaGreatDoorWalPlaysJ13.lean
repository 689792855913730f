/- What the proof of WalPlays needs, part 13. -/
import Derived.Test.YtojlldalhhibmaaGreatDoorWalPlaysJ8
import Derived.Test.YtojlldalhhibmaaGreatDoorWalPlaysJ12
import Derived.StillTailTactics
import Derived.Deep.Cut
import Derived.Deep.DeepCutAuto

namespace Go.Proofs.YtojlldalhhibmaaGreatDoor
open Go Go.RowKit
set_option linter.unusedVariables false

theorem Wl.Ok.disk {l : Wl} (ok : l.Ok) {E : Dsk} (hE : E.Ok) : ({ l with D := E } : Wl).Ok := ⟨hE, ok.n2, ok.n64, ok.s1, ok.s64, ok.a0, ok.a1, ok.last, ok.synced, ok.nd, ok.lt, ok.str, ok.slen⟩
set_option maxHeartbeats 4000000 in
set_option maxRecDepth 100000 in
theorem refWFree_at (l : Wl) (i : Nat) (w : World) (A1 : Option Addr) (c1 : Nat) (A2 : Option Addr) (c2 : Nat) (A3 : Option Addr) (c3 : Nat) (A4 : Option Addr) (c4 : Nat)
    (HD : Hid (RDd w (.agg #[.int .i64 l.D.size, .int .i64 l.D.limit, .slice A1 l.D.nv c1, .slice A2 l.D.ng c2, .slice A3 l.D.pend.length c3]) l.D)) (HG : Hid (Rgr w (.slice A4 l.live.length c4) l.live)) (ok : ({ l with stream := [] } : Wl).Ok) (hi : i ≤ 64) (hq : l.D.pend.length ≤ 900000) :
    Calls Tryz.prog 33 #[.agg (rlC l A1 c1 A2 c2 A3 c3 A4 c4), .int .i64 (i : Int)] w fun e w' => ∃ B1 d1 B2 d2 B3 d3, e = .returned (.agg (rlC { l with D := wFree l.D (l.a + (i : Int) * l.size) l.size } B1 d1 B2 d2 B3 d3 A4 c4)) ∧
      RDd w' (.agg #[.int .i64 (wFree l.D (l.a + (i : Int) * l.size) l.size).size, .int .i64 (wFree l.D (l.a + (i : Int) * l.size) l.size).limit, .slice B1 (wFree l.D (l.a + (i : Int) * l.size) l.size).nv d1, .slice B2 (wFree l.D (l.a + (i : Int) * l.size) l.size).ng d2, .slice B3 (wFree l.D (l.a + (i : Int) * l.size) l.size).pend.length d3]) (wFree l.D (l.a + (i : Int) * l.size) l.size) ∧
      Rgr w' (.slice A4 l.live.length c4) l.live ∧ Below w.heap.size w w' := by
  have hmul := seg_mul (i := i) (size := l.size) hi ok.s64
  have h0 : 0 ≤ l.a := ok.a0
  have h1 : l.a ≤ 65536 := ok.am
  have hs64 : l.size ≤ 64 := ok.s64
  have OK := Lib.hid ok
  have HQ := Lib.hid hq
  have S0 : Hid (Lf w _ { l with D := wFree l.D (l.a + (i : Int) * l.size) 0 } A1 c1 A2 c2 A3 c3 A4 c4 _) := Lf.start (v := .int .i64 0) HD.out HG.out #[.int .i64 0, .int .i64 0, .slice none 0 0, .slice none 0 0, .slice none 0 0, .int .i64 0, .int .i64 0, .int .i64 0, .slice none 0 0, .string ⟨#[]⟩, .int .u64 0, .int .u64 0]
  clear HD HG ok hq
  unfold rlC at *
  go_enter Tryz.func33, Tryz.ntmps33
  go_wp2_with fail
  generalize hw9 : World.alloc (World.alloc w _) _ = wa at *
  clear hw9
  go_loopw [5] (fun kv wr => ∃ (k : Nat) (B1 : Option Addr) (d1 : Nat) (B2 : Option Addr) (d2 : Nat) (B3 : Option Addr) (d3 : Nat), kv = .int .i64 (k : Int) ∧ k ≤ l.size ∧ Hid (Lf w wr { l with D := wFree l.D (l.a + (i : Int) * l.size) k } B1 d1 B2 d2 B3 d3 A4 c4 #[.int .i64 0, .int .i64 0, .slice none 0 0, .slice none 0 0, .slice none 0 0, .int .i64 0, .int .i64 0, .int .i64 0, .slice none 0 0, .string ⟨#[]⟩, .int .u64 0, .int .u64 0])) (fun kv _ => l.size - (intOf kv).toNat)
  case atStart => exact ⟨0, A1, c1, A2, c2, A3, c3, rfl, Nat.zero_le _, S0⟩
  case round =>
    obtain ⟨k, A1, c1, A2, c2, A3, c3, rfl, hk, S⟩ := hrel
    clear S0
    obtain ⟨E, hE⟩ : ∃ E, wFree l.D (l.a + (i : Int) * l.size) k = E := ⟨_, rfl⟩
    have HE := Lib.hid hE
    rw [hE] at S
    have EOK : Hid E.Ok := by rw [Hid, ← hE]; exact wFree_ok OK.out.dok _ _
    have EP : Hid (E.pend.length ≤ 1000000) := by
      have := wFree_pend l.D (l.a + (i : Int) * l.size) k
      have := HQ.out
      rw [Hid, ← hE]
      omega
    clear hE
    have d0 : (wr).cell? ⟨w.heap.size, 0, none⟩ = some (.int .i64 E.size) := S.out.v.blk.cell 0
    have d1 : (wr).cell? ⟨w.heap.size, 1, none⟩ = some (.int .i64 E.limit) := S.out.v.blk.cell 1
    have d2 : (wr).cell? ⟨w.heap.size, 2, none⟩ = some (.slice A1 E.nv c1) := S.out.v.blk.cell 2
    have d3 : (wr).cell? ⟨w.heap.size, 3, none⟩ = some (.slice A2 E.ng c2) := S.out.v.blk.cell 3
    have d4 : (wr).cell? ⟨w.heap.size, 4, none⟩ = some (.slice A3 E.pend.length c3) := S.out.v.blk.cell 4
    have d5 : (wr).cell? ⟨w.heap.size, 5, none⟩ = some (.int .i64 l.a) := S.out.v.blk.cell 5
    have d6 : (wr).cell? ⟨w.heap.size, 6, none⟩ = some (.int .i64 (l.n : Int)) := S.out.v.blk.cell 6
    have d7 : (wr).cell? ⟨w.heap.size, 7, none⟩ = some (.int .i64 (l.size : Int)) := S.out.v.blk.cell 7
    have d8 : (wr).cell? ⟨w.heap.size, 8, none⟩ = some (.slice A4 l.live.length c4) := S.out.v.blk.cell 8
    have d9 : (wr).cell? ⟨w.heap.size, 9, none⟩ = some (.string (st l.stream)) := S.out.v.blk.cell 9
    have d10 : (wr).cell? ⟨w.heap.size, 10, none⟩ = some (.int .u64 (l.last : Int)) := S.out.v.blk.cell 10
    have d11 : (wr).cell? ⟨w.heap.size, 11, none⟩ = some (.int .u64 (l.synced : Int)) := S.out.v.blk.cell 11
    have df0 : (wr).frozen? ⟨w.heap.size, 0, none⟩ = false := S.out.v.blk.free 0
    have df1 : (wr).frozen? ⟨w.heap.size, 1, none⟩ = false := S.out.v.blk.free 1
    have df2 : (wr).frozen? ⟨w.heap.size, 2, none⟩ = false := S.out.v.blk.free 2
    have df3 : (wr).frozen? ⟨w.heap.size, 3, none⟩ = false := S.out.v.blk.free 3
    have df4 : (wr).frozen? ⟨w.heap.size, 4, none⟩ = false := S.out.v.blk.free 4
    have df5 : (wr).frozen? ⟨w.heap.size, 5, none⟩ = false := S.out.v.blk.free 5
    have df6 : (wr).frozen? ⟨w.heap.size, 6, none⟩ = false := S.out.v.blk.free 6
    have df7 : (wr).frozen? ⟨w.heap.size, 7, none⟩ = false := S.out.v.blk.free 7
    have df8 : (wr).frozen? ⟨w.heap.size, 8, none⟩ = false := S.out.v.blk.free 8
    have df9 : (wr).frozen? ⟨w.heap.size, 9, none⟩ = false := S.out.v.blk.free 9
    have df10 : (wr).frozen? ⟨w.heap.size, 10, none⟩ = false := S.out.v.blk.free 10
    have df11 : (wr).frozen? ⟨w.heap.size, 11, none⟩ = false := S.out.v.blk.free 11
    by_cases hlt : k < l.size
    · have hw1 : IntKind.i64.wrap ((i : Int) * l.size) = (i : Int) * l.size := i64_in (by omega) (by omega)
      have hw2 : IntKind.i64.wrap (l.a + (i : Int) * l.size) = l.a + (i : Int) * l.size := i64_in (by omega) (by omega)
      have hw3 : IntKind.i64.wrap (l.a + (i : Int) * l.size + k) = l.a + (i : Int) * l.size + k := i64_in (by omega) (by omega)
      go_wp2_with fail
      refine (rdfree_any _ E (l.a + (i : Int) * l.size + k) _ S.out.v.rd EOK.out EP.out).mono ?_
      rintro e w1 ⟨v1, rfl, h1, hb1⟩
      obtain ⟨B1, d1', B2, d2', B3, d3', rfl⟩ := h1.shape
      have S1 := Lib.hid (S.out.to hb1)
      have HD1 := Lib.hid h1
      have HE2 : Hid (wFree l.D (l.a + (i : Int) * l.size) (k + 1) = E.free (l.a + (i : Int) * l.size + k)) := by rw [Hid, wFree, HE.out]
      obtain ⟨E', hE'⟩ : ∃ E', E.free (l.a + (i : Int) * l.size + k) = E' := ⟨_, rfl⟩
      rw [hE'] at HE2 HD1 ⊢
      clear hE' h1 hb1 S d0 d1 d2 d3 d4 d5 d6 d7 d8 d9 d10 d11 df0 df1 df2 df3 df4 df5 df6 df7 df8 df9 df10 df11 hw1 hw2 hw3
      have d0 : (w1).cell? ⟨w.heap.size, 0, none⟩ = some (.int .i64 E.size) := S1.out.v.blk.cell 0
      have d1 : (w1).cell? ⟨w.heap.size, 1, none⟩ = some (.int .i64 E.limit) := S1.out.v.blk.cell 1
      have d2 : (w1).cell? ⟨w.heap.size, 2, none⟩ = some (.slice A1 E.nv c1) := S1.out.v.blk.cell 2
      have d3 : (w1).cell? ⟨w.heap.size, 3, none⟩ = some (.slice A2 E.ng c2) := S1.out.v.blk.cell 3
      have d4 : (w1).cell? ⟨w.heap.size, 4, none⟩ = some (.slice A3 E.pend.length c3) := S1.out.v.blk.cell 4
      have df0 : (w1).frozen? ⟨w.heap.size, 0, none⟩ = false := S1.out.v.blk.free 0
      have df1 : (w1).frozen? ⟨w.heap.size, 1, none⟩ = false := S1.out.v.blk.free 1
      have df2 : (w1).frozen? ⟨w.heap.size, 2, none⟩ = false := S1.out.v.blk.free 2
      have df3 : (w1).frozen? ⟨w.heap.size, 3, none⟩ = false := S1.out.v.blk.free 3
      have df4 : (w1).frozen? ⟨w.heap.size, 4, none⟩ = false := S1.out.v.blk.free 4
      have S2 := Lib.hid (S1.out.setD HD1.out)
      go_wp2_with fail
      go_roundw
      case rel => exact ⟨k + 1, B1, d1', B2, d2', B3, d3', by go_num, by omega, by rw [HE2.out]; exact S2⟩
      case measure => simp [intOf]; omega
    · obtain rfl : l.size = k := by omega
      have r0 : (wr).cell? ⟨w.heap.size + 1, 0, none⟩ = some (.int .i64 0) := S.out.z.cell 0
      have r1 : (wr).cell? ⟨w.heap.size + 1, 1, none⟩ = some (.int .i64 0) := S.out.z.cell 1
      have r2 : (wr).cell? ⟨w.heap.size + 1, 2, none⟩ = some (.slice none 0 0) := S.out.z.cell 2
      have r3 : (wr).cell? ⟨w.heap.size + 1, 3, none⟩ = some (.slice none 0 0) := S.out.z.cell 3
      have r4 : (wr).cell? ⟨w.heap.size + 1, 4, none⟩ = some (.slice none 0 0) := S.out.z.cell 4
      have r5 : (wr).cell? ⟨w.heap.size + 1, 5, none⟩ = some (.int .i64 0) := S.out.z.cell 5
      have r6 : (wr).cell? ⟨w.heap.size + 1, 6, none⟩ = some (.int .i64 0) := S.out.z.cell 6
      have r7 : (wr).cell? ⟨w.heap.size + 1, 7, none⟩ = some (.int .i64 0) := S.out.z.cell 7
      have r8 : (wr).cell? ⟨w.heap.size + 1, 8, none⟩ = some (.slice none 0 0) := S.out.z.cell 8
      have r9 : (wr).cell? ⟨w.heap.size + 1, 9, none⟩ = some (.string ⟨#[]⟩) := S.out.z.cell 9
      have r10 : (wr).cell? ⟨w.heap.size + 1, 10, none⟩ = some (.int .u64 0) := S.out.z.cell 10
      have r11 : (wr).cell? ⟨w.heap.size + 1, 11, none⟩ = some (.int .u64 0) := S.out.z.cell 11
      have rf0 : (wr).frozen? ⟨w.heap.size + 1, 0, none⟩ = false := S.out.z.free 0
      have rf1 : (wr).frozen? ⟨w.heap.size + 1, 1, none⟩ = false := S.out.z.free 1
      have rf2 : (wr).frozen? ⟨w.heap.size + 1, 2, none⟩ = false := S.out.z.free 2
      have rf3 : (wr).frozen? ⟨w.heap.size + 1, 3, none⟩ = false := S.out.z.free 3
      have rf4 : (wr).frozen? ⟨w.heap.size + 1, 4, none⟩ = false := S.out.z.free 4
      have rf5 : (wr).frozen? ⟨w.heap.size + 1, 5, none⟩ = false := S.out.z.free 5
      have rf6 : (wr).frozen? ⟨w.heap.size + 1, 6, none⟩ = false := S.out.z.free 6
      have rf7 : (wr).frozen? ⟨w.heap.size + 1, 7, none⟩ = false := S.out.z.free 7
      have rf8 : (wr).frozen? ⟨w.heap.size + 1, 8, none⟩ = false := S.out.z.free 8
      have rf9 : (wr).frozen? ⟨w.heap.size + 1, 9, none⟩ = false := S.out.z.free 9
      have rf10 : (wr).frozen? ⟨w.heap.size + 1, 10, none⟩ = false := S.out.z.free 10
      have rf11 : (wr).frozen? ⟨w.heap.size + 1, 11, none⟩ = false := S.out.z.free 11
      have HF := Lib.hid (S.out.ret S.out.v.val)
      go_wp2_with fail
      exact bodyPost_ret (results_cell1 rfl _ _ (w.heap.size + 1) rfl HF.out.1 logTy) rfl ⟨A1, c1, A2, c2, A3, c3, by rw [HE.out], by rw [HE.out]; exact S.out.rets.1, S.out.rets.2, HF.out.2.2⟩
/-- .. whatever the stream. -/
theorem refWFree_at2 (l : Wl) (i : Nat) (w : World) (A1 : Option Addr) (c1 : Nat) (A2 : Option Addr) (c2 : Nat) (A3 : Option Addr) (c3 : Nat) (A4 : Option Addr) (c4 : Nat)
    (HD : RDd w (.agg #[.int .i64 l.D.size, .int .i64 l.D.limit, .slice A1 l.D.nv c1, .slice A2 l.D.ng c2, .slice A3 l.D.pend.length c3]) l.D) (HG : Rgr w (.slice A4 l.live.length c4) l.live) (ok : ({ l with stream := [] } : Wl).Ok) (hi : i ≤ 64) (hq : l.D.pend.length ≤ 900000) :
    Calls Tryz.prog 33 #[.agg (rlC l A1 c1 A2 c2 A3 c3 A4 c4), .int .i64 (i : Int)] w fun e w' => ∃ B1 d1 B2 d2 B3 d3, e = .returned (.agg (rlC { l with D := wFree l.D (l.a + (i : Int) * l.size) l.size } B1 d1 B2 d2 B3 d3 A4 c4)) ∧
      RDd w' (.agg #[.int .i64 (wFree l.D (l.a + (i : Int) * l.size) l.size).size, .int .i64 (wFree l.D (l.a + (i : Int) * l.size) l.size).limit, .slice B1 (wFree l.D (l.a + (i : Int) * l.size) l.size).nv d1, .slice B2 (wFree l.D (l.a + (i : Int) * l.size) l.size).ng d2, .slice B3 (wFree l.D (l.a + (i : Int) * l.size) l.size).pend.length d3]) (wFree l.D (l.a + (i : Int) * l.size) l.size) ∧
      Rgr w' (.slice A4 l.live.length c4) l.live ∧ Below w.heap.size w w' := refWFree_at l i w A1 c1 A2 c2 A3 c3 A4 c4 HD HG ok hi hq
theorem refWFree_any (v : Value) (l : Wl) (i : Nat) (w : World) (hr : RLg w v l) (ok : l.Ok) (hi : i ≤ 64) (hq : l.D.pend.length ≤ 900000) :
    Calls Tryz.prog 33 #[v, .int .i64 (i : Int)] w fun e w' => ∃ v', e = .returned v' ∧ RLg w' v' { l with D := wFree l.D (l.a + (i : Int) * l.size) l.size } ∧ Below w.heap.size w w' := by
  obtain ⟨A1, c1, A2, c2, A3, c3, A4, c4, rfl, HD, HG⟩ := hr
  refine (refWFree_at l i w A1 c1 A2 c2 A3 c3 A4 c4 HD HG (ok.drop ok.dok) hi hq).mono ?_
  rintro e w' ⟨B1, d1, B2, d2, B3, d3, rfl, h1, h2, h3⟩
  exact ⟨_, rfl, ⟨_, _, _, _, _, _, _, _, rfl, h1, h2⟩, h3⟩
end Go.Proofs.YtojlldalhhibmaaGreatDoor

namespace Go.Proofs.YtojlldalhhibmaaGreatDoor
open Go Go.RowKit
set_option linter.unusedVariables false

theorem elemRsg : Elem Tryz.prog 41 89 (.agg #[.int .i64 0, .int .u64 0, .int .u64 0]) 3 24 := Elem.mk' Tryz.underlying41 (by kernel_rfl) rfl (by omega)
theorem Sl.newrsg (w : World) (x : Sg) {g : Nat} (hg : g = w.heap.size) : Sl (fun _ => True) (w.alloc (.cells #[.int .i64 (x.at' : Int), .int .u64 (x.base : Int), .int .u64 (x.count : Int)] 89)) 3 (.slice (some ⟨g, 0, none⟩) 1 1) 1 (sgC x) := by
  subst hg
  refine ⟨rfl, some ⟨w.heap.size, 0, none⟩, 1, rfl, by omega, by simp [maxLen], (fun h => by cases h), fun _ => ⟨w.heap.size, 0, rfl, trivial, fun j u hu => ?_⟩⟩
  have hb := Blk.new w 89 #[.int .i64 (x.at' : Int), .int .u64 (x.base : Int), .int .u64 (x.count : Int)]
  rcases j with _ | _ | _ | j
  · cases hu; exact hb.cell 0
  · cases hu; exact hb.cell 1
  · cases hu; exact hb.cell 2
  · simp [sgC] at hu
theorem st_nil : st [] = ⟨#[]⟩ := rfl
abbrev zlog : Array Value := #[.int .i64 0, .int .i64 0, .slice none 0 0, .slice none 0 0, .slice none 0 0, .int .i64 0, .int .i64 0, .int .i64 0, .slice none 0 0, .string ⟨#[]⟩, .int .u64 0, .int .u64 0]
/-- Behind some segments of the chain. -/
structure RoSt (w wr : World) (D : Dsk) (a : Int) (n size : Nat) (live : List Sg) (last : Nat) (A1 : Option Addr) (c1 : Nat) (A2 : Option Addr) (c2 : Nat) (A3 : Option Addr) (c3 : Nat) (A4 : Option Addr) (c4 : Nat) (vo : Value) (out : List Rcd) : Prop where
  v : Lv wr (w.heap.size + 2) ⟨D, a, n, size, live, [], last, 0⟩ A1 c1 A2 c2 A3 c3 A4 c4
  z : Blk wr (w.heap.size + 1) 43 zlog
  lown : wr.ownsRow w.heap.size 89 3 (.slice A4 live.length c4) live.length (sgcs live)
  oown : wr.ownsRow w.heap.size 71 2 vo out.length (rcs out)
  below : Below w.heap.size w wr
section
variable {w wr w2 w3 : World} {D : Dsk} {a : Int} {n size : Nat} {live : List Sg} {last : Nat} {A1 A2 A3 A4 B4 : Option Addr} {c1 c2 c3 c4 d4 k : Nat} {vo v3 : Value} {out : List Rcd}
theorem RoSt.later (s : RoSt w wr D a n size live last A1 c1 A2 c2 A3 c3 A4 c4 vo out) (hb : Below wr.heap.size wr w2) : RoSt w w2 D a n size live last A1 c1 A2 c2 A3 c3 A4 c4 vo out :=
  ⟨s.v.later hb, s.z.later hb, own_later s.lown hb, own_later s.oown hb, s.below.trans (hb.mono s.below.size)⟩
theorem own_not {e : TypeId} {size n B : Nat} {v : Value} {xs : List Value} (h : wr.ownsRow B e size v n xs) {ks : List (Option TypeId)} (he : some e ∉ ks) : ∀ z t, v.ownBlock = some z → kindAt wr z = some t → t ∉ ks := fun z t hz ht => by
  have := kind_own h hz
  rw [this] at ht
  injection ht with ht
  rw [← ht]
  exact he
/-- A segment more. -/
theorem RoSt.live' {x : Sg} (s : RoSt w wr D a n size live last A1 c1 A2 c2 A3 c3 A4 c4 vo out) (hown : w3.ownsRow w.heap.size 89 3 (.slice B4 k d4) (live.length + 1) (sgcs live ++ sgC x)) (hg : wr.grownBy w3 (Value.slice A4 live.length c4).ownBlock) :
    k = (live ++ [x]).length ∧ RoSt w (w3.setCell ⟨w.heap.size + 2, 8, none⟩ (.slice B4 k d4)) D a n size (live ++ [x]) last A1 c1 A2 c2 A3 c3 B4 d4 vo out := by
  have hk := own_len hown
  have hlen : (live ++ [x]).length = live.length + 1 := by rw [List.length_append, List.length_singleton]
  rw [← hlen] at hk hown
  subst hk
  rw [← sgcs_snoc] at hown
  refine ⟨rfl, ?_⟩
  have h1 : SameK rdKs wr w3 := SameK.grown hg (own_not s.lown (by decide))
  have h2 : SameK [some 71] wr w3 := SameK.grown hg (own_not s.lown (by decide))
  have v3 : Lv w3 (w.heap.size + 2) ⟨D, a, n, size, live, [], last, 0⟩ A1 c1 A2 c2 A3 c3 A4 c4 → True := fun _ => trivial
  have b3 : Blk w3 (w.heap.size + 2) 43 (rlC ⟨D, a, n, size, live, [], last, 0⟩ A1 c1 A2 c2 A3 c3 A4 c4) := s.v.blk.kept s.lown hg (by decide)
  have z3 : Blk w3 (w.heap.size + 1) 43 zlog := s.z.kept s.lown hg (by decide)
  have hs : SameK rlKs w3 (w3.setCell ⟨w.heap.size + 2, 8, none⟩ (.slice B4 (live ++ [x]).length d4)) := SameK.setCell (p := ⟨w.heap.size + 2, 8, none⟩) b3 (by decide) _
  have hs2 : SameK [some 71] w3 (w3.setCell ⟨w.heap.size + 2, 8, none⟩ (.slice B4 (live ++ [x]).length d4)) := SameK.setCell (p := ⟨w.heap.size + 2, 8, none⟩) b3 (by decide) _
  have hS : Rgr w3 (.slice B4 (live ++ [x]).length d4) (live ++ [x]) := KSl.of_own (by omega) hown
  exact ⟨⟨b3.put 8 _, (s.v.rd.same h1).same (hs.less (by decide)), KSl.same hS hs (by decide)⟩, z3.other (by omega) _ _, own_sameK hown hs (by decide), own_sameK (own_sameK s.oown h2 (by decide)) hs2 (by decide), (below_grown_own s.below s.lown hg s.below.size).setCell (by simp) _⟩
/-- A record more. -/
theorem RoSt.more {r : Rcd} (s : RoSt w wr D a n size live last A1 c1 A2 c2 A3 c3 A4 c4 vo out) (hown : w3.ownsRow w.heap.size 71 2 v3 (out.length + 1) (rcs out ++ rcs [r])) (hg : wr.grownBy w3 vo.ownBlock) :
    RoSt w w3 D a n size live last A1 c1 A2 c2 A3 c3 A4 c4 v3 (out ++ [r]) := by
  have h1 : SameK rlKs wr w3 := SameK.grown hg (own_not s.oown (by decide))
  refine ⟨s.v.at h1 (s.v.blk.kept s.oown hg (by decide)), s.z.kept s.oown hg (by decide), own_sameK s.lown h1 (by decide), ?_, below_grown_own s.below s.oown hg s.below.size⟩
  rw [List.length_append, rcs_append]
  exact hown
theorem RoSt.last' (s : RoSt w wr D a n size live last A1 c1 A2 c2 A3 c3 A4 c4 vo out) (m : Nat) : RoSt w (wr.setCell ⟨w.heap.size + 2, 10, none⟩ (.int .u64 (m : Int))) D a n size live m A1 c1 A2 c2 A3 c3 A4 c4 vo out := by
  have hs : SameK rlKs wr (wr.setCell ⟨w.heap.size + 2, 10, none⟩ (.int .u64 (m : Int))) := SameK.setCell (p := ⟨w.heap.size + 2, 10, none⟩) s.v.blk (by decide) _
  have hs2 : SameK [some 71] wr (wr.setCell ⟨w.heap.size + 2, 10, none⟩ (.int .u64 (m : Int))) := SameK.setCell (p := ⟨w.heap.size + 2, 10, none⟩) s.v.blk (by decide) _
  exact ⟨s.v.setLast m, s.z.other (by omega) _ _, own_sameK s.lown hs (by decide), own_sameK s.oown hs2 (by decide), s.below.setCell (by simp) _⟩
end
/-- Records that are read while those behind vo are written. -/
def RecAt (w : World) (A : Option Addr) (rs : List Rcd) (vo : Value) : Prop := 0 < rs.length → ∃ b o, A = some ⟨b, o, none⟩ ∧ kindAt w b = some (some 71) ∧ vo.ownBlock ≠ some b ∧
  ∀ j (hj : j < rs.length), w.cell? ⟨b, o + j * 2, none⟩ = some (.int .u64 (rs[j].1 : Int)) ∧ w.cell? ⟨b, o + j * 2 + 1, none⟩ = some (.string (st rs[j].2))
section
variable {w w1 w2 : World} {A : Option Addr} {c k B : Nat} {rs : List Rcd} {vo v3 : Value}
theorem RecAt.start {out : List Rcd} {B0 : Nat} (h : Ro w1 w.heap.size (.slice A k c) rs) (ho : w.ownsRow B0 71 2 vo out.length (rcs out)) : RecAt w1 A rs vo := fun hn => by
  have hs := Sl.of_own (by omega) h
  obtain ⟨_, A', c', hv, _, _, _, h6⟩ := hs
  obtain ⟨b, o, ha, ⟨hb1, hb2⟩, hc⟩ := h6 hn
  cases hv
  subst ha
  have hkd := kind_own h (b := b) rfl
  refine ⟨_, _, rfl, hkd, fun e => ?_, fun j hj => ⟨hc _ _ (rcs_at hj).1, ?_⟩⟩
  · have := (ho.lt _ e).2
    omega
  · rw [Nat.add_assoc]; exact hc _ _ (rcs_at hj).2
theorem RecAt.same (h : RecAt w A rs vo) (hs : SameK [some 71] w w1) : RecAt w1 A rs vo := fun hn => by
  obtain ⟨b, o, h1, h2, h3, h4⟩ := h hn
  have hb := hs b _ (by decide) h2
  have hc : ∀ j, w1.cell? ⟨b, j, none⟩ = w.cell? ⟨b, j, none⟩ := fun j => World.cell?_of_block (a := ⟨b, j, none⟩) hb
  exact ⟨b, o, h1, kind_same hb h2, h3, fun j hj => ⟨(hc _).trans (h4 j hj).1, (hc _).trans (h4 j hj).2⟩⟩
theorem RecAt.later (h : RecAt w A rs vo) (hb : Below w.heap.size w w1) : RecAt w1 A rs vo := h.same (SameK.below hb)
theorem RecAt.grown (h : RecAt w A rs vo) (hg : w.grownBy w1 vo.ownBlock) (hv : v3.ownBlock = vo.ownBlock ∨ v3.ownBlock = some w.heap.size) : RecAt w1 A rs v3 := fun hn => by
  obtain ⟨b, o, h1, h2, h3, h4⟩ := h hn
  have hlt := kind_lt h2
  have hb := hg.block b hlt (fun e => h3 e.symm)
  have hc : ∀ j, w1.cell? ⟨b, j, none⟩ = w.cell? ⟨b, j, none⟩ := fun j => World.cell?_of_block (a := ⟨b, j, none⟩) hb
  refine ⟨b, o, h1, kind_same hb h2, fun e => ?_, fun j hj => ⟨(hc _).trans (h4 j hj).1, (hc _).trans (h4 j hj).2⟩⟩
  rcases hv with hv | hv
  · exact h3 (hv ▸ e)
  · rw [hv] at e
    injection e with e
    omega
end
/-- Which one is next, as the document's number. -/
def NxR (b : Option Fd) (r : Int) : Prop := (b = none ∧ r = -1) ∨ ∃ x, b = some x ∧ r = (x.at' : Int)
def FirstR (b : Option Fd) (r : Int) (q : Nat) : Prop := (b = none ∧ r = -1) ∨ ∃ x, b = some x ∧ r = (x.at' : Int) ∧ q = x.base
theorem FirstR.nx {b : Option Fd} {r : Int} {q : Nat} (h : FirstR b r q) : NxR b r := by
  rcases h with h | ⟨x, h1, h2, _⟩
  · exact .inl h
  · exact .inr ⟨x, h1, h2⟩
theorem wPick_look {f : SF} {a : Int} {size i q frm : Nat} {rs : List Rcd} (h : wLook f a size i = some (q, rs)) : wPick frm (wAll f a size (i + 1)) none = wBest frm (wPick frm (wAll f a size i) none) ⟨i, q, rs⟩ := by
  rw [wAll_succ, wPick_append, wCell_some h]
  rfl
theorem wPick_skip {f : SF} {a : Int} {size i frm : Nat} (h : wLook f a size i = none) : wPick frm (wAll f a size (i + 1)) none = wPick frm (wAll f a size i) none := by
  rw [wAll_succ, wPick_append, wCell_none h]
  rfl
/-- The next one among those from j on. -/
def nxFrom (f : SF) (a : Int) (size n : Nat) (live : List Sg) (last j : Nat) : Option Fd := (wFrom f a size j (n - j)).find? fun x => decide (x.base = (last + 1) % U64) && !usedL live x.at'
section
variable {f : SF} {a : Int} {size n last j : Nat} {live : List Sg}
theorem nxFrom_end : nxFrom f a size n live last n = none := by unfold nxFrom; rw [Nat.sub_self]; rfl
theorem nxFrom_zero : nxFrom f a size n live last 0 = wNext (wAll f a size n) live last := by unfold nxFrom wNext; rw [Nat.sub_zero, wAll_from]
theorem nxFrom_succ (hj : j < n) : nxFrom f a size n live last j = ((wCell f a size j).find? fun x => decide (x.base = (last + 1) % U64) && !usedL live x.at').or (nxFrom f a size n live last (j + 1)) := by
  unfold nxFrom
  rw [show n - j = (n - (j + 1)) + 1 by omega, wFrom, List.find?_append]
theorem nxFrom_none (hj : j < n) (h : wLook f a size j = none) : nxFrom f a size n live last j = nxFrom f a size n live last (j + 1) := by rw [nxFrom_succ hj, wCell_none h]; rfl
theorem nxFrom_no {q : Nat} {rs : List Rcd} (hj : j < n) (h : wLook f a size j = some (q, rs)) (hn : q ≠ (last + 1) % U64 ∨ usedL live j = true) : nxFrom f a size n live last j = nxFrom f a size n live last (j + 1) := by
  rw [nxFrom_succ hj, wCell_some h]
  have : (decide (q = (last + 1) % U64) && !usedL live j) = false := by
    rcases hn with hn | hn
    · rw [decide_eq_false hn, Bool.false_and]
    · rw [hn]; simp
  simp [List.find?, this]
theorem nxFrom_yes {q : Nat} {rs : List Rcd} (hj : j < n) (h : wLook f a size j = some (q, rs)) (h1 : q = (last + 1) % U64) (h2 : usedL live j = false) : nxFrom f a size n live last j = some ⟨j, q, rs⟩ := by
  rw [nxFrom_succ hj, wCell_some h]
  have : (decide (q = (last + 1) % U64) && !usedL live j) = true := by rw [decide_eq_true h1, h2]; rfl
  simp [List.find?, this]
end
/-- Twelve cells put. -/
abbrev putL (w : World) (g : Nat) (cs : Array Value) : World := put12 w g (cs.getD 0 undef) (cs.getD 1 undef) (cs.getD 2 undef) (cs.getD 3 undef) (cs.getD 4 undef) (cs.getD 5 undef) (cs.getD 6 undef) (cs.getD 7 undef) (cs.getD 8 undef) (cs.getD 9 undef) (cs.getD 10 undef) (cs.getD 11 undef)
/-- Behind the chain, while segments are given back. -/
def RoE (w wr : World) (E : Dsk) (a : Int) (n size : Nat) (live : List Sg) (last : Nat) (vo : Value) (out : List Rcd) : Prop := ∃ A1 c1 A2 c2 A3 c3 A4 c4, Lv wr (w.heap.size + 2) ⟨E, a, n, size, live, [], last, 0⟩ A1 c1 A2 c2 A3 c3 A4 c4 ∧
  Blk wr (w.heap.size + 1) 43 zlog ∧ wr.ownsRow w.heap.size 71 2 vo out.length (rcs out) ∧ Below w.heap.size w wr
theorem put12_lv {w : World} {g : Nat} {l l' : Wl} {A1 A2 A3 A4 B1 B2 B3 B4 : Option Addr} {c1 c2 c3 c4 d1 d2 d3 d4 : Nat} (h : Lv w g l A1 c1 A2 c2 A3 c3 A4 c4)
    (hD : RDd w (.agg #[.int .i64 l'.D.size, .int .i64 l'.D.limit, .slice B1 l'.D.nv d1, .slice B2 l'.D.ng d2, .slice B3 l'.D.pend.length d3]) l'.D) (hG : Rgr w (.slice B4 l'.live.length d4) l'.live) :
    Lv (putL w g (rlC l' B1 d1 B2 d2 B3 d3 B4 d4)) g l' B1 d1 B2 d2 B3 d3 B4 d4 := by
  have hb : Blk w g 43 #[_, _, _, _, _, _, _, _, _, _, _, _] := h.blk
  have hs : SameK rlKs w (putL w g (rlC l' B1 d1 B2 d2 B3 d3 B4 d4)) := SameK.puts12 hb (by decide) _ _ _ _ _ _ _ _ _ _ _ _
  exact ⟨hb.put12 _ _ _ _ _ _ _ _ _ _ _ _, hD.same (hs.less (by decide)), KSl.same hG hs (by decide)⟩
theorem away12_blk {w : World} {g g' : Nat} {t : TypeId} {cs : Array Value} (h : Blk w g' t cs) (hne : g' ≠ g) (x0 x1 x2 x3 x4 x5 x6 x7 x8 x9 x10 x11 : Value) : Blk (put12 w g x0 x1 x2 x3 x4 x5 x6 x7 x8 x9 x10 x11) g' t cs :=
  (((((((((((h.other hne 0 x0).other hne 1 x1).other hne 2 x2).other hne 3 x3).other hne 4 x4).other hne 5 x5).other hne 6 x6).other hne 7 x7).other hne 8 x8).other hne 9 x9).other hne 10 x10).other hne 11 x11
section
variable {w wr : World} {E E' : Dsk} {a : Int} {n size : Nat} {live : List Sg} {last : Nat} {vo : Value} {out : List Rcd} {A1 A2 A3 A4 B1 B2 B3 B4 : Option Addr} {c1 c2 c3 c4 d1 d2 d3 d4 : Nat}
theorem RoE.put (V : Lv wr (w.heap.size + 2) ⟨E, a, n, size, live, [], last, 0⟩ A1 c1 A2 c2 A3 c3 A4 c4) (Z : Blk wr (w.heap.size + 1) 43 zlog) (O : wr.ownsRow w.heap.size 71 2 vo out.length (rcs out)) (B : Below w.heap.size w wr)
    (hD : RDd wr (.agg #[.int .i64 E'.size, .int .i64 E'.limit, .slice B1 E'.nv d1, .slice B2 E'.ng d2, .slice B3 E'.pend.length d3]) E') (hG : Rgr wr (.slice B4 live.length d4) live) :
    RoE w (putL wr (w.heap.size + 2) (rlC ⟨E', a, n, size, live, [], last, 0⟩ B1 d1 B2 d2 B3 d3 B4 d4)) E' a n size live last vo out := by
  have hb : Blk wr (w.heap.size + 2) 43 #[_, _, _, _, _, _, _, _, _, _, _, _] := V.blk
  have hs : SameK [some 71] wr (putL wr (w.heap.size + 2) (rlC ⟨E', a, n, size, live, [], last, 0⟩ B1 d1 B2 d2 B3 d3 B4 d4)) := SameK.puts12 hb (by decide) _ _ _ _ _ _ _ _ _ _ _ _
  exact ⟨_, _, _, _, _, _, _, _, put12_lv V hD hG, away12_blk Z (by omega) _ _ _ _ _ _ _ _ _ _ _ _, own_sameK O hs (by decide), below_put12 B (by omega) _ _ _ _ _ _ _ _ _ _ _ _⟩
/-- The log that is handed back. -/
theorem lay_log {l' : Wl} (Z : Blk wr (w.heap.size + 1) 43 zlog) (O : wr.ownsRow w.heap.size 71 2 vo out.length (rcs out)) (B : Below w.heap.size w wr)
    (hD : RDd wr (.agg #[.int .i64 l'.D.size, .int .i64 l'.D.limit, .slice B1 l'.D.nv d1, .slice B2 l'.D.ng d2, .slice B3 l'.D.pend.length d3]) l'.D) (hG : Rgr wr (.slice B4 l'.live.length d4) l'.live) :
    Blk (putL wr (w.heap.size + 1) (rlC l' B1 d1 B2 d2 B3 d3 B4 d4)) (w.heap.size + 1) 43 (rlC l' B1 d1 B2 d2 B3 d3 B4 d4) ∧ RLg (putL wr (w.heap.size + 1) (rlC l' B1 d1 B2 d2 B3 d3 B4 d4)) (.agg (rlC l' B1 d1 B2 d2 B3 d3 B4 d4)) l' ∧
    Ro (putL wr (w.heap.size + 1) (rlC l' B1 d1 B2 d2 B3 d3 B4 d4)) w.heap.size vo out ∧ Below w.heap.size w (putL wr (w.heap.size + 1) (rlC l' B1 d1 B2 d2 B3 d3 B4 d4)) := by
  have hs : SameK (some 71 :: rlKs) wr (putL wr (w.heap.size + 1) (rlC l' B1 d1 B2 d2 B3 d3 B4 d4)) := SameK.puts12 Z (by decide) _ _ _ _ _ _ _ _ _ _ _ _
  exact ⟨Z.put12 _ _ _ _ _ _ _ _ _ _ _ _, ⟨_, _, _, _, _, _, _, _, rfl, hD.same (hs.less (by decide)), KSl.same hG hs (by decide)⟩, own_sameK O hs (by decide), below_put12 B (by omega) _ _ _ _ _ _ _ _ _ _ _ _⟩
end
/-- The log that is found, where the chain is known. -/
theorem wOpen_wl {D : Dsk} {a : Int} {n size frm : Nat} {live : List Sg} {last : Nat} {out : List Rcd} (h : wChain (wAll D.view a size n) frm (n + 1) [] frm [] (wPick frm (wAll D.view a size n) none) = (live, last, out)) :
    (wOpen D a n size frm).1 = (⟨wFreeAll D a size live n, a, n, size, live, [], max last frm, 0⟩ : Wl).sync := by simp only [wOpen, h]
end Go.Proofs.YtojlldalhhibmaaGreatDoor

namespace Go.Proofs.YtojlldalhhibmaaGreatDoor
open Go Go.RowKit
set_option linter.unusedVariables false

def stayL (l : Wl) (seq i : Nat) : List Sg := (l.live.take i).filter (·.stays seq)
/-- The stream behind i segments. -/
def trS (l : Wl) (seq i : Nat) : List UInt8 := if i = l.live.length ∧ ((l.live.getLast?).map (·.stays seq)).getD true = false then [] else l.stream
theorem wTruncD_snoc (a : Int) (size seq : Nat) (s : Sg) : ∀ (xs : List Sg) (D : Dsk), wTruncD D a size seq (xs ++ [s]) = (if s.stays seq then wTruncD D a size seq xs else wFree (wTruncD D a size seq xs) (a + (s.at' : Int) * size) size)
  | [], D => rfl
  | x :: xs, D => by rw [List.cons_append, wTruncD, wTruncD, wTruncD_snoc a size seq s xs]
theorem wTruncD_ok {D : Dsk} (h : D.Ok) (a : Int) (size seq : Nat) (xs : List Sg) : (wTruncD D a size seq xs).Ok := by
  induction xs generalizing D with
  | nil => exact h
  | cons x xs ih =>
    rw [wTruncD]
    apply ih
    split
    · exact h
    · exact wFree_ok h _ _
theorem wTruncD_pend (D : Dsk) (a : Int) (size seq : Nat) (xs : List Sg) : (wTruncD D a size seq xs).pend.length ≤ D.pend.length + xs.length * size := by
  induction xs generalizing D with
  | nil => simp [wTruncD]
  | cons x xs ih =>
    rw [wTruncD, List.length_cons, Nat.add_mul, Nat.one_mul]
    refine Nat.le_trans (ih _) ?_
    split
    · omega
    · have := wFree_pend D (a + (x.at' : Int) * size) size
      omega
theorem Wl.Ok.trunc {l : Wl} (ok : l.Ok) (seq : Nat) : (wTrunc l seq).1.Ok := by
  unfold wTrunc
  split
  · exact ok
  · rename_i hseq
    refine ⟨(wTruncD_ok ok.dok _ _ _ _).sync, ok.n2, ok.n64, ok.s1, ok.s64, ok.a0, ok.a1, ok.last, ok.last, ?_, fun s hs => ok.lt s (List.mem_filter.1 hs).1, ?_, ?_⟩
    · exact (ok.nd).sublist ((List.filter_sublist).map _)
    · intro hne e
      have hne2 : (if ((l.live.getLast?).map (·.stays seq)).getD true then l.stream else []) ≠ [] := hne
      split at hne2
      · rename_i hst
        have hl := ok.str hne2
        rw [List.getLast?_eq_some_getLast hl] at hst
        simp only [Option.map_some, Option.getD_some] at hst
        have : l.live.getLast hl ∈ l.live.filter (·.stays seq) := List.mem_filter.2 ⟨List.getLast_mem hl, hst⟩
        have e2 : l.live.filter (·.stays seq) = [] := e
        rw [e2] at this
        cases this
      · exact hne2 rfl
    · show (if ((l.live.getLast?).map (·.stays seq)).getD true then l.stream else []).length ≤ 512 * l.size
      split
      · exact ok.slen
      · simp
/-- What holds behind i segments. -/
structure TrSt (w w1 wr : World) (gl : Nat) (h h' : Zn) (l : Wl) (seq i : Nat) (lv sv lv' : Value) (cc : Array Value) : Prop where
  dk : Dk wr h' (wTruncD l.D l.a l.size seq (l.live.take i))
  lb : Lb wr gl h'.g l.a l.n l.size lv sv l.last l.synced
  live : Sl (fun b => kindAt wr b = some (some 79) ∧ b < w1.heap.size) wr 3 lv l.live.length (sgcs l.live)
  str : Ub wr 0 sv (trS l seq i)
  own : wr.ownsRow w1.heap.size 79 3 lv' (stayL l seq i).length (sgcs (stayL l seq i))
  cur : Blk wr w.heap.size 79 cc
  base : w.heap.size < w1.heap.size
  size : w1.heap.size ≤ wr.heap.size
  mtp : Mtp h gl w h' wr
section
variable {w w1 wr w2 : World} {gl : Nat} {h h' h2 : Zn} {l : Wl} {seq i : Nat} {lv sv lv' v2 : Value} {cc : Array Value}
theorem TrSt.later (s : TrSt w w1 wr gl h h' l seq i lv sv lv' cc) (hb : Below wr.heap.size wr w2) : TrSt w w1 w2 gl h h' l seq i lv sv lv' cc :=
  ⟨s.dk.later hb, s.lb.later hb, ((s.live).keep fun b o ⟨hk, _⟩ => World.cell?_of_block (a := ⟨b, o, none⟩) (hb.block b (kind_lt hk))).more fun b ⟨hk, h1⟩ => ⟨kind_same (hb.block b (kind_lt hk)) hk, h1⟩, s.str.later hb, own_later s.own hb, s.cur.later hb, s.base, Nat.le_trans s.size hb.size, s.mtp.stp (Stp.below hb)⟩
/-- A segment stays. -/
theorem TrSt.stay {x : Sg} (s : TrSt w w1 wr gl h h' l seq i lv sv lv' cc) (hx : l.live[i]? = some x) (hst : x.stays seq = true) (hown : w2.ownsRow w1.heap.size 79 3 v2 ((stayL l seq i).length + 1) (sgcs (stayL l seq i) ++ sgC x)) (hg : wr.grownBy w2 lv'.ownBlock) :
    TrSt w w1 w2 gl h h' l seq (i + 1) lv sv v2 cc := by
  have hi : i < l.live.length := (List.getElem?_eq_some_iff.1 hx).1
  have ht : l.live.take (i + 1) = l.live.take i ++ [x] := by rw [List.take_add_one, hx]; rfl
  have hk : SameK dkKs wr w2 := SameK.grown hg fun z t hz ht => by
    have := kind_own s.own hz
    rw [this] at ht
    cases ht
    decide
  have hkeep : ∀ b, b < w1.heap.size → w2.heap[b]? = wr.heap[b]? := fun b hb => hg.block b (Nat.lt_of_lt_of_le hb s.size) (fun e => by have := (s.own.lt b e.symm).1; omega)
  have hS : stayL l seq (i + 1) = stayL l seq i ++ [x] := by unfold stayL; rw [ht, List.filter_append]; simp [hst]
  refine ⟨by rw [ht, wTruncD_snoc, if_pos hst]; exact s.dk.same hk, s.lb.kept s.own hg (by decide), ?_, ?_, ?_, ?_, s.base, Nat.le_trans s.size hg.size, s.mtp.g, ?_, s.mtp.has⟩
  · exact ((s.live).keep fun b o ⟨_, h1⟩ => World.cell?_of_block (a := ⟨b, o, none⟩) (hkeep b h1)).more fun b ⟨h0, h1⟩ => ⟨kind_same (hkeep b h1) h0, h1⟩
  · have e : trS l seq (i + 1) = trS l seq i := by
      have hii : ¬ (i = l.live.length ∧ ((l.live.getLast?).map (·.stays seq)).getD true = false) := fun h => by omega
      unfold trS
      rw [if_neg hii, if_neg]
      rintro ⟨h1, h2⟩
      have hne : l.live ≠ [] := fun e => by rw [e] at hi; simp at hi
      rw [List.getLast?_eq_getElem?, show l.live.length - 1 = i by omega, hx] at h2
      simp only [Option.map_some, Option.getD_some] at h2
      rw [hst] at h2
      cases h2
    rw [e]
    exact s.str.same hk (by decide)
  · rw [hS, List.length_append, List.length_singleton, sgcs_snoc]; exact hown
  · exact (hkeep _ s.base).trans s.cur
  · exact s.mtp.turn.trans (F' := fun b => w1.heap.size ≤ b) (Turn.of_grown hg fun z hz => (s.own.lt z hz).1) (fun b hb => .inr (Nat.le_trans (Nat.le_of_lt s.base) hb))
/-- A segment is given back. -/
theorem TrSt.free {x : Sg} (s : TrSt w w1 wr gl h h' l seq i lv sv lv' cc) (hx : l.live[i]? = some x) (hst : x.stays seq = false) (hd : Dk w2 h2 (wFree (wTruncD l.D l.a l.size seq (l.live.take i)) (l.a + (x.at' : Int) * l.size) l.size)) (hs : Stp h' wr h2 w2) (he : trS l seq (i + 1) = trS l seq i) :
    TrSt w w1 w2 gl h h2 l seq (i + 1) lv sv lv' cc := by
  have ht : l.live.take (i + 1) = l.live.take i ++ [x] := by rw [List.take_add_one, hx]; rfl
  have hk : SameK [some 79] wr w2 := hs.same s.dk (by decide) (by decide) (by decide)
  have hS : stayL l seq (i + 1) = stayL l seq i := by unfold stayL; rw [ht, List.filter_append]; simp [hst]
  refine ⟨by rw [ht, wTruncD_snoc, if_neg (by rw [hst]; simp)]; exact hd, by rw [hs.g]; exact hs.lb s.dk s.lb, ?_, by rw [he]; exact hs.ub s.dk s.str, by rw [hS]; exact own_sameK s.own hk (by decide), hs.blk s.dk s.cur (by decide) (by decide), s.base, Nat.le_trans s.size hs.turn.size, s.mtp.stp hs⟩
  exact ((s.live).keep fun b o ⟨h0, _⟩ => World.cell?_of_block (a := ⟨b, o, none⟩) (hk b _ (by decide) h0)).more fun b ⟨h0, h1⟩ => ⟨kind_same (hk b _ (by decide) h0) h0, h1⟩
/-- The current one is given back. -/
theorem TrSt.freeCur {x : Sg} (s : TrSt w w1 wr gl h h' l seq i lv sv lv' cc) (hx : l.live[i]? = some x) (hst : x.stays seq = false) (hd : Dk w2 h2 (wFree (wTruncD l.D l.a l.size seq (l.live.take i)) (l.a + (x.at' : Int) * l.size) l.size)) (hs : Stp h' wr h2 w2) (he : trS l seq (i + 1) = []) :
    TrSt w w1 (w2.setCell ⟨gl, 5, none⟩ (.slice none 0 0)) gl h h2 l seq (i + 1) lv (.slice none 0 0) lv' cc := by
  have ht : l.live.take (i + 1) = l.live.take i ++ [x] := by rw [List.take_add_one, hx]; rfl
  have hk : SameK [some 79] wr w2 := hs.same s.dk (by decide) (by decide) (by decide)
  have hS : stayL l seq (i + 1) = stayL l seq i := by unfold stayL; rw [ht, List.filter_append]; simp [hst]
  have lb2 := hs.lb s.dk s.lb
  have k2 : SameK lgKs w2 (w2.setCell ⟨gl, 5, none⟩ (.slice none 0 0)) := SameK.setCell (p := ⟨gl, 5, none⟩) lb2 (by decide) _
  have lv2 : Sl (fun b => kindAt w2 b = some (some 79) ∧ b < w1.heap.size) w2 3 lv l.live.length (sgcs l.live) :=
    ((s.live).keep fun b o ⟨h0, _⟩ => World.cell?_of_block (a := ⟨b, o, none⟩) (hk b _ (by decide) h0)).more fun b ⟨h0, h1⟩ => ⟨kind_same (hk b _ (by decide) h0) h0, h1⟩
  have m2 := s.mtp.stp hs
  refine ⟨by rw [ht, wTruncD_snoc, if_neg (by rw [hst]; simp)]; exact hd.same k2.dk, by rw [hs.g]; exact lb2.put 5 _, ?_, by rw [he]; exact (Sl.nil : Bs _ _ _ []), by rw [hS]; exact own_sameK (own_sameK s.own hk (by decide)) k2 (by decide), (hs.blk s.dk s.cur (by decide) (by decide)).sameK k2 (by decide), s.base, ?_, m2.g, m2.turn.setCell (p := ⟨gl, 5, none⟩) (.inl (.inr rfl)) _, m2.has⟩
  · exact ((lv2).keep fun b o ⟨h0, _⟩ => World.cell?_of_block (a := ⟨b, o, none⟩) (k2 b _ (by decide) h0)).more fun b ⟨h0, h1⟩ => ⟨kind_same (k2 b _ (by decide) h0) h0, h1⟩
  · have := Nat.le_trans s.size hs.turn.size
    simpa using this
end

/-- What is left is put. -/
theorem TrSt.done {w w1 wr : World} {gl : Nat} {h h' : Zn} {l : Wl} {seq : Nat} {lv sv lv' : Value} {cc : Array Value} (s : TrSt w w1 wr gl h h' l seq l.live.length lv sv lv' cc) {W8 : World} (hW : wr.setCell ⟨gl, 4, none⟩ lv' = W8) :
    LgV W8 gl h' { l with D := wTruncD l.D l.a l.size seq l.live, live := l.live.filter (·.stays seq), stream := trS l seq l.live.length } lv' sv ∧ Mtp h gl w h' W8 := by
  subst hW
  have k9 : SameK lgKs wr (wr.setCell ⟨gl, 4, none⟩ lv') := SameK.setCell (p := ⟨gl, 4, none⟩) s.lb (by decide) _
  have hd := s.dk
  have ho := s.own
  unfold stayL at ho
  rw [List.take_length] at hd ho
  exact ⟨⟨hd.same k9.dk, s.lb.put 4 _, KSl.of_own (by omega) (own_sameK ho k9 (by decide)), s.str.same k9 (by decide)⟩, ⟨s.mtp.g, s.mtp.turn.setCell (p := ⟨gl, 4, none⟩) (.inl (.inr rfl)) _, s.mtp.has⟩⟩
theorem trS_end (l : Wl) (seq : Nat) : trS l seq l.live.length = if ((l.live.getLast?).map (·.stays seq)).getD true then l.stream else [] := by
  unfold trS
  cases ((l.live.getLast?).map (·.stays seq)).getD true <;> simp
/-- What the variable 'current' holds. -/
def CurIs (l : Wl) (cc : Array Value) : Prop := (l.stream = [] ∧ cc = #[.int .i64 (-1), .int .u64 0, .int .u64 0]) ∨ (l.stream ≠ [] ∧ ∃ s, l.live.getLast? = some s ∧ cc = #[.int .i64 (s.at' : Int), .int .u64 (s.base : Int), .int .u64 (s.count : Int)])
/-- Ahead of the loop. -/
structure TrPre (w wx : World) (gl : Nat) (h : Zn) (l : Wl) (lv sv : Value) (cc : Array Value) : Prop where
  dk : Dk wx h l.D
  lb : Lb wx gl h.g l.a l.n l.size lv sv l.last l.synced
  live : Sl (fun b => kindAt wx b = some (some 79) ∧ b < w.heap.size) wx 3 lv l.live.length (sgcs l.live)
  str : Ub wx 0 sv l.stream
  cur : Blk wx w.heap.size 79 cc
  below : Below w.heap.size w wx
section
variable {w wx w2 : World} {gl : Nat} {h : Zn} {l : Wl} {lv sv : Value} {cc : Array Value}
theorem TrPre.start (g : LgV w gl h l lv sv) (cs : Array Value) : TrPre w (w.alloc (.cells cs 79)) gl h l lv sv cs := by
  have qa : Below w.heap.size w (w.alloc (.cells cs 79)) := (Below.refl _ _).alloc (Nat.le_refl _) _
  refine ⟨g.dk.later qa, g.lb.later qa, ?_, g.str.later qa, Blk.new _ _ _, qa⟩
  exact (Sl.keep g.live fun b o hk => World.cell?_of_block (a := ⟨b, o, none⟩) (qa.block b (kind_lt hk))).more fun b hk => ⟨kind_same (qa.block b (kind_lt hk)) hk, kind_lt hk⟩
theorem TrPre.later (s : TrPre w wx gl h l lv sv cc) (hb : Below wx.heap.size wx w2) : TrPre w w2 gl h l lv sv cc :=
  ⟨s.dk.later hb, s.lb.later hb, ((s.live).keep fun b o ⟨hk, _⟩ => World.cell?_of_block (a := ⟨b, o, none⟩) (hb.block b (kind_lt hk))).more fun b ⟨hk, h1⟩ => ⟨kind_same (hb.block b (kind_lt hk)) hk, h1⟩, s.str.later hb, s.cur.later hb, s.below.trans (hb.mono s.below.size)⟩
theorem TrPre.set1 (s : TrPre w wx gl h l lv sv cc) (k : Nat) (u : Value) : TrPre w (wx.setCell ⟨w.heap.size, k, none⟩ u) gl h l lv sv (cc.setIfInBounds k u) := by
  have hk : SameK dkKs wx (wx.setCell ⟨w.heap.size, k, none⟩ u) := SameK.setCell (p := ⟨w.heap.size, k, none⟩) s.cur (by decide) u
  have hb : ∀ b, b < w.heap.size → (wx.setCell ⟨w.heap.size, k, none⟩ u).heap[b]? = wx.heap[b]? := fun b hb => Below.heap_setCell wx ⟨w.heap.size, k, none⟩ u b (fun e => by simp at e; omega)
  refine ⟨s.dk.same hk, s.lb.far (p := ⟨w.heap.size, k, none⟩) (fun e => s.lb.ne s.cur (by decide) e) u, ?_, s.str.same hk (by decide), s.cur.put k u, s.below.setCell (Nat.le_refl _) u⟩
  exact ((s.live).keep fun b o ⟨_, h1⟩ => World.cell?_of_block (a := ⟨b, o, none⟩) (hb b h1)).more fun b ⟨h0, h1⟩ => ⟨kind_same (hb b h1) h0, h1⟩
theorem TrPre.fin (s : TrPre w wx gl h l lv sv cc) (seq : Nat) : TrSt w wx wx gl h h l seq 0 lv sv (.slice none 0 0) cc := by
  have e : trS l seq 0 = l.stream := by
    unfold trS
    split
    · rename_i h1
      have hl : l.live = [] := List.eq_nil_of_length_eq_zero h1.1.symm
      rw [hl] at h1
      simp at h1
    · rfl
  exact ⟨s.dk, s.lb, (s.live).more fun b ⟨h0, h1⟩ => ⟨h0, Nat.lt_of_lt_of_le h1 s.below.size⟩, by rw [e]; exact s.str, by simpa [stayL, sgcs] using World.ownsRow_nil wx wx.heap.size 79 3, s.cur, s.cur.lt, Nat.le_refl _, Mtp.of_stp (Stp.below s.below)⟩
theorem TrPre.at (s : TrPre w wx gl h l lv sv cc) : ∃ A c, lv = .slice A l.live.length c ∧ Hid (∀ j (hj : j < l.live.length), ∃ b o, A = some ⟨b, o, none⟩ ∧ wx.cell? ⟨b, o + j * 3, none⟩ = some (.int .i64 (l.live[j].at' : Int)) ∧ wx.cell? ⟨b, o + j * 3 + 1, none⟩ = some (.int .u64 (l.live[j].base : Int)) ∧ wx.cell? ⟨b, o + j * 3 + 2, none⟩ = some (.int .u64 (l.live[j].count : Int))) := by
  obtain ⟨_, A, c, h2, h3, h4, h5, h6⟩ := s.live
  refine ⟨A, c, h2, fun j hj => ?_⟩
  obtain ⟨b, o, ha, _, hc⟩ := h6 (by omega)
  have hg := sgcs_get l.live j hj
  refine ⟨b, o, ha, hc _ _ hg.1, ?_, ?_⟩
  · rw [Nat.add_assoc]; exact hc _ _ hg.2.1
  · rw [Nat.add_assoc]; exact hc _ _ hg.2.2
end
set_option maxHeartbeats 8000000 in
set_option maxRecDepth 100000 in
theorem lgtrunc_any (h : Zn) (l : Wl) (gl seq : Nat) (w : World) (hg : Lg w gl h l) (ok : l.Ok) (hp : l.D.pend.length ≤ 700000) :
    Calls Tryz.prog 14 #[.pointer (some ⟨gl, 0, none⟩), .int .u64 (seq : Int)] w fun e w' => e = .returned (.int .i64 ((wTrunc l seq).2 : Int)) ∧ ∃ h', Lg w' gl h' (wTrunc l seq).1 ∧ Mtp h gl w h' w' := by
  obtain ⟨lv, sv, hg⟩ := hg
  obtain ⟨As, cs, rfl, hs1, hs2, -, -⟩ := hg.str.bs.at
  obtain ⟨Al, cl, rfl, hl1, hl2, -⟩ := Rg3.at hg.live
  have HG := Lib.hid hg
  have OK := Lib.hid ok
  have HP := Lib.hid hp
  have l6 : w.cell? ⟨gl, 6, none⟩ = some (.int .u64 (l.last : Int)) := hg.lb.cell 6
  have hln := Lib.hid (Nat.le_trans ok.len ok.n64)
  clear ok hp
  by_cases hs : l.last < seq
  · have E : Hid (wTrunc l seq = (l, 83)) := by unfold wTrunc; rw [Hid, if_pos hs]
    have hsi : (l.last : Int) < (seq : Int) := by omega
    clear hs hg
    go_enter Tryz.func14, Tryz.ntmps14
    go_wp2_with fail
    go_ret
    refine ⟨by rw [E.out]; rfl, h, ?_, Mtp.of_stp (Stp.refl _ _)⟩
    rw [E.out]
    exact ⟨_, _, HG.out⟩
  · have HS := Lib.hid hs
    have hsi : ¬ (l.last : Int) < (seq : Int) := by omega
    have qa : Below w.heap.size w (w.alloc (.cells #[.int .i64 (-1), .int .u64 0, .int .u64 0] 79)) := (Below.refl _ _).alloc (Nat.le_refl _) _
    have P1 := Lib.hid (TrPre.start hg #[.int .i64 (-1), .int .u64 0, .int .u64 0])
    have l5 : (w.alloc (.cells #[.int .i64 (-1), .int .u64 0, .int .u64 0] 79)).cell? ⟨gl, 5, none⟩ = some (.slice As l.stream.length cs) := P1.out.lb.cell 5
    clear hs hg qa
    go_enter Tryz.func14, Tryz.ntmps14
    go_upto_if 21 with (fail)
    generalize hw1 : w.alloc _ = w1 at *
    clear hw1 l5
    go_cut [] (fun wx => ∃ cc, Hid (CurIs l cc) ∧ Hid (TrPre w wx gl h l (.slice Al l.live.length cl) (.slice As l.stream.length cs) cc))
    case first =>
      by_cases h0 : l.stream.length = 0
      · have h1 : ¬ (0 : Int) < (l.stream.length : Int) := by omega
        have h2 : decide ((0 : Int) < (l.stream.length : Int)) = false := decide_eq_false h1
        have CI : Hid (CurIs l #[.int .i64 (-1), .int .u64 0, .int .u64 0]) := .inl ⟨List.eq_nil_of_length_eq_zero h0, rfl⟩
        clear h0
        go_wp2_with fail
        go_meet
        exact ⟨_, CI, P1⟩
      · have h1 : (0 : Int) < (l.stream.length : Int) := by omega
        have h3 : l.stream ≠ [] := fun e => h0 (by rw [e]; rfl)
        have hne := OK.out.str h3
        obtain ⟨m0, hm0⟩ : ∃ m0, l.live.length = m0 + 1 := ⟨l.live.length - 1, by have := pos_len hne; omega⟩
        have P2 : Hid (TrPre w w1.drew gl h l (.slice Al l.live.length cl) (.slice As l.stream.length cs) _) := P1.out.later (below_drewN (Below.refl _ _) 1)
        obtain ⟨A', c', he, hat⟩ := P2.out.at
        injection he with e1 _ e3
        subst e1 e3
        obtain ⟨b, o, rfl, x0, x1, x2⟩ := hat.out m0 (by omega)
        have hlast : l.live.getLast? = some l.live[m0] := by rw [List.getLast?_eq_getElem?, show l.live.length - 1 = m0 by omega, List.getElem?_eq_getElem (by omega)]
        have CI : Hid (CurIs l #[.int .i64 (l.live[m0].at' : Int), .int .u64 (l.live[m0].base : Int), .int .u64 (l.live[m0].count : Int)]) := .inr ⟨h3, _, hlast, rfl⟩
        have l4 : w1.drew.cell? ⟨gl, 4, none⟩ = some (.slice (some ⟨b, o, none⟩) l.live.length cl) := P2.out.lb.cell 4
        have hm64 : m0 ≤ 64 := by have := hln.out; omega
        have HM0 := Lib.hid hm0
        clear h0 h3 hne hlast hat
        generalize l.live[m0] = s0 at *
        rw [hm0] at l4
        have hw : IntKind.i64.wrap (m0 : Int) = (m0 : Int) := i64_in (by omega) (by omega)
        have hi0 : (0 : Int) ≤ (m0 : Int) := by omega
        have hi1 : (m0 : Int) < (m0 : Int) + 1 := by omega
        have hi3 : m0 < m0 + 1 := by omega
        have g0 : w1.drew.cell? ⟨w.heap.size, 0, none⟩ = some (.int .i64 (-1)) := P2.out.cur.cell 0
        have g1 : w1.drew.cell? ⟨w.heap.size, 1, none⟩ = some (.int .u64 0) := P2.out.cur.cell 1
        have g2 : w1.drew.cell? ⟨w.heap.size, 2, none⟩ = some (.int .u64 0) := P2.out.cur.cell 2
        have f0 := P2.out.cur.free 0
        have f1 := P2.out.cur.free 1
        have f2 := P2.out.cur.free 2
        have P3 : Hid (TrPre w (((w1.drew.setCell ⟨w.heap.size, 0, none⟩ (.int .i64 (s0.at' : Int))).setCell ⟨w.heap.size, 1, none⟩ (.int .u64 (s0.base : Int))).setCell ⟨w.heap.size, 2, none⟩ (.int .u64 (s0.count : Int))) gl h l (.slice (some ⟨b, o, none⟩) l.live.length cl) (.slice As l.stream.length cs) #[.int .i64 (s0.at' : Int), .int .u64 (s0.base : Int), .int .u64 (s0.count : Int)]) := ((P2.out.set1 0 _).set1 1 _).set1 2 _
        clear P1 P2
        go_wp2_with fail
        go_still_tail 12, (by kernel_rfl)
        change wpList _ _ _ _ _ w1.drew
        generalize w1.drew = w2 at *
        go_wp2_with fail
        go_meet
        exact ⟨_, CI, P3⟩
    obtain ⟨cc, CI, PR⟩ := hcut
    have l4 : wc.cell? ⟨gl, 4, none⟩ = some (.slice Al l.live.length cl) := PR.out.lb.cell 4
    have T0 : Hid (TrSt w wc wc gl h h l seq 0 (.slice Al l.live.length cl) (.slice As l.stream.length cs) (.slice none 0 0) cc) := PR.out.fin seq
    obtain ⟨wL, hwL⟩ : ∃ wL, wL = wc := ⟨_, rfl⟩
    subst hwL
    clear P1 l6
    go_wp2_with fail
    clear l4
    go_loopw [5, 39] (fun ov kv wq => ∃ (i : Nat) (A5 : Option Addr) (k5 c5 : Nat) (h' : Zn) (As' : Option Addr) (ks' cs' : Nat), ov = .slice A5 k5 c5 ∧ kv = .int .i64 (i : Int) ∧ i ≤ l.live.length ∧ Hid (TrSt w wL wq gl h h' l seq i (.slice Al l.live.length cl) (.slice As' ks' cs') (.slice A5 k5 c5) cc)) (fun _ kv _ => l.live.length - (intOf kv).toNat)
    case atStart => exact ⟨0, none, 0, 0, h, As, _, cs, rfl, rfl, Nat.zero_le _, T0⟩
    case round =>
      obtain ⟨i, A5, k5, c5, h', As', ks', cs', rfl, rfl, hi, TS⟩ := hrel
      clear T0
      by_cases hil : i < l.live.length
      · obtain ⟨_, _, _, hv9, _, _, _, hA9⟩ := TS.out.live
        injection hv9 with e1 _ e3
        subst e1 e3
        obtain ⟨b, o, rfl, hkb, hc9⟩ := hA9 (by omega)
        obtain ⟨q0, q1, q2⟩ := sgcs_get l.live i hil
        have x0 := hc9 _ _ q0
        have x1 := hc9 _ _ q1
        have x2 := hc9 _ _ q2
        rw [← Nat.add_assoc] at x1 x2
        have hx : l.live[i]? = some l.live[i] := List.getElem?_eq_getElem hil
        have HIL : Hid (i < l.live.length) := hil
        have hi64 : i ≤ 64 := by have := hln.out; omega
        have HX := Lib.hid hx
        clear hc9 q0 q1 q2 hx hA9
        generalize l.live[i] = x at *
        have TA := Lib.hid (TS.out.later ((Below.refl _ _).alloc (Nat.le_refl _) (.cells #[.int .i64 (x.at' : Int), .int .u64 (x.base : Int), .int .u64 (x.count : Int)] 79)))
        have BX := Lib.hid (Blk.new wr 79 #[.int .i64 (x.at' : Int), .int .u64 (x.base : Int), .int .u64 (x.count : Int)])
        go_upto_region 10 with (fail)
        have hmem : Hid (x ∈ l.live) := List.mem_of_getElem? HX.out
        have hxn : x.at' ≤ 64 := by have h1 := OK.out.lt x hmem.out; have h2 := OK.out.n64; omega
        have OKD : Hid ((wTruncD l.D l.a l.size seq (l.live.take i)).Ok) := wTruncD_ok OK.out.dok _ _ _ _
        have PED : Hid ((wTruncD l.D l.a l.size seq (l.live.take i)).pend.length ≤ 900000) := by
          have h1 := wTruncD_pend l.D l.a l.size seq (l.live.take i)
          have h2 : (l.live.take i).length * l.size ≤ 64 * 64 := Nat.mul_le_mul (by rw [List.length_take]; have := hln.out; omega) OK.out.s64
          have h3 := HP.out
          rw [Hid]
          omega
        have hq := u64_add x.base x.count
        have hp1 := u64_pred ((x.base + x.count) % U64)
        rw [Nat.mod_add_mod] at hp1
        obtain ⟨m1, hm1⟩ : ∃ m1, (x.base + x.count) % U64 = m1 := ⟨_, rfl⟩
        obtain ⟨m2, hm2⟩ : ∃ m2, (x.base + x.count + (U64 - 1)) % U64 = m2 := ⟨_, rfl⟩
        have hst : Hid (x.stays seq = (decide (0 < x.count) && decide (seq < m2))) := by rw [Hid, ← hm2]; rfl
        rw [hm1] at hq hp1
        rw [hm2] at hp1
        clear hm1 hm2 x0 x1 x2 TS
        generalize hg8 : wr.heap.size = g8 at *
        generalize hwa : wr.alloc _ = wa at *
        have t0 : wa.cell? ⟨g8, 0, none⟩ = some (.int .i64 (x.at' : Int)) := BX.out.cell 0
        have t1 : wa.cell? ⟨g8, 1, none⟩ = some (.int .u64 (x.base : Int)) := BX.out.cell 1
        have t2 : wa.cell? ⟨g8, 2, none⟩ = some (.int .u64 (x.count : Int)) := BX.out.cell 2
        clear hg8 hwa
        by_cases hstay : 0 < x.count ∧ seq < m2
        · have hs : Hid (x.stays seq = true) := by rw [Hid, hst.out]; simp [hstay]
          have h1 : (0 : Int) < (x.count : Int) := by have := hstay.1; omega
          have h2 : (seq : Int) < (m2 : Int) := by have := hstay.2; omega
          have M1 : Hid ((stayL l seq i).length + 1 ≤ maxLen ∧ ((stayL l seq i).length + 1) * 24 ≤ 140737488355328) := by
            have h9 := List.length_filter_le (·.stays seq) (l.live.take i)
            rw [List.length_take] at h9
            have := hln.out
            have h8 : (stayL l seq i).length ≤ 64 := by unfold stayL; omega
            rw [Hid]
            simp only [maxLen]
            omega
          have M3 : Hid (∀ o : Obj, wL.heap.size ≤ (wa.alloc o).heap.size) := fun o => Nat.le_trans TA.out.size (by simp)
          clear hstay
          go_wp2_with (at_builtin; refine wpList_append_sl _ rfl (.tmp 56) (.tmp 58) elemSg rfl (World.ownsRow.alloc TA.out.own _) (Sl.newsg wa x rfl) rfl rfl (sgC_one x) M1.out.1 M1.out.2 (M3.out _) ?_; intro A8 k8 c8 w8 hown8 hg8 hat8)
          have TS8 := Lib.hid ((TA.out.later ((Below.refl _ _).alloc (Nat.le_refl _) _)).stay HX.out hs.out hown8 hg8)
          clear hown8 hg8 hat8
          go_roundw
          case rel => exact ⟨i + 1, A8, k8, c8, h', As', ks', cs', rfl, by go_num, HIL.out, TS8⟩
          case measure => have := HIL.out; simp [intOf]; omega
        · have hs : Hid (x.stays seq = false) := by
            rw [Hid, hst.out]
            by_cases h9 : 0 < x.count
            · have h8 : ¬ seq < m2 := fun h => hstay ⟨h9, h⟩
              simp [h8]
            · simp [h9]
          by_cases hcz : 0 < x.count
          · have h1 : (0 : Int) < (x.count : Int) := by omega
            have h2 : ¬ (seq : Int) < (m2 : Int) := fun h => hstay ⟨hcz, by omega⟩
            clear hcz hstay
            go_wp2_with fail
            refine (lgfree_any h' _ gl l.a l.n l.size x.at' _ _ l.last l.synced wa TA.out.dk OKD.out TA.out.lb OK.out.s64 hxn OK.out.a0 OK.out.am PED.out).mono ?_
            rintro e w5 ⟨rfl, h5, hd5, hs5⟩
            have BX5 := Lib.hid (hs5.blk TA.out.dk BX.out (by decide) (by decide))
            have CU5 := Lib.hid (hs5.blk TA.out.dk TA.out.cur (by decide) (by decide))
            have D5 := Lib.hid hd5
            have S5 := Lib.hid hs5
            have t0 : w5.cell? ⟨g8, 0, none⟩ = some (.int .i64 (x.at' : Int)) := BX5.out.cell 0
            have t1 : w5.cell? ⟨g8, 1, none⟩ = some (.int .u64 (x.base : Int)) := BX5.out.cell 1
            have t2 : w5.cell? ⟨g8, 2, none⟩ = some (.int .u64 (x.count : Int)) := BX5.out.cell 2
            clear hd5 hs5
            rcases CI.out with ⟨he, hc⟩ | ⟨hne, sl, hls, hc⟩
            · rw [hc] at CU5
              have u0 : w5.cell? ⟨w.heap.size, 0, none⟩ = some (.int .i64 (-1)) := CU5.out.cell 0
              have u1 : w5.cell? ⟨w.heap.size, 1, none⟩ = some (.int .u64 0) := CU5.out.cell 1
              have u2 : w5.cell? ⟨w.heap.size, 2, none⟩ = some (.int .u64 0) := CU5.out.cell 2
              have hx1 : ¬ (x.at' : Int) = -1 := by omega
              have hx2 : ((x.at' : Int) == -1) = false := by rw [beq_eq_false_iff_ne]; exact hx1
              have TS5 := Lib.hid (TA.out.free HX.out hs.out D5.out S5.out (by unfold trS; rw [he]; simp))
              clear he hc
              go_wp2_with fail
              go_roundw
              case rel => exact ⟨i + 1, A5, k5, c5, h5, As', ks', cs', rfl, by go_num, HIL.out, TS5⟩
              case measure => have := HIL.out; simp [intOf]; omega
            · rw [hc] at CU5
              have u0 : w5.cell? ⟨w.heap.size, 0, none⟩ = some (.int .i64 (sl.at' : Int)) := CU5.out.cell 0
              have u1 : w5.cell? ⟨w.heap.size, 1, none⟩ = some (.int .u64 (sl.base : Int)) := CU5.out.cell 1
              have u2 : w5.cell? ⟨w.heap.size, 2, none⟩ = some (.int .u64 (sl.count : Int)) := CU5.out.cell 2
              by_cases hlast : i + 1 = l.live.length
              · have hxs : x = sl := by
                  rw [List.getLast?_eq_getElem?, ← hlast, Nat.add_sub_cancel, HX.out] at hls
                  injection hls
                subst hxs
                have he0 : trS l seq (i + 1) = [] := by
                  unfold trS
                  rw [if_pos ⟨hlast, by rw [hls]; exact hs.out⟩]
                have g5 : w5.cell? ⟨gl, 5, none⟩ = some (.slice As' ks' cs') := (S5.out.lb TA.out.dk TA.out.lb).cell 5
                have f5 := (S5.out.lb TA.out.dk TA.out.lb).free 5
                have TS5 := Lib.hid (TA.out.freeCur HX.out hs.out D5.out S5.out he0)
                clear hlast hls hne hc he0
                go_wp2_with fail
                go_roundw
                case rel => exact ⟨i + 1, A5, k5, c5, h5, none, 0, 0, rfl, by go_num, HIL.out, TS5⟩
                case measure => have := HIL.out; simp [intOf]; omega
              · have hne2 : x.at' ≠ sl.at' := fun e9 => by
                  have hnd := OK.out.nd
                  have h8 := HIL.out
                  rw [List.getLast?_eq_getElem?] at hls
                  have h6 : (l.live.map (·.at'))[i]? = some x.at' := by rw [List.getElem?_map, HX.out]; rfl
                  have h7 : (l.live.map (·.at'))[l.live.length - 1]? = some sl.at' := by rw [List.getElem?_map, hls]; rfl
                  have h5 := (List.getElem?_inj (i := i) (j := l.live.length - 1) (by rw [List.length_map]; exact h8) hnd).1 (h6.trans (by rw [h7, e9]))
                  omega
                have hx1 : ¬ (x.at' : Int) = (sl.at' : Int) := by omega
                have hx2 : ((x.at' : Int) == (sl.at' : Int)) = false := by rw [beq_eq_false_iff_ne]; exact hx1
                have he0 : trS l seq (i + 1) = trS l seq i := by
                  unfold trS
                  rw [if_neg (fun h => hlast h.1), if_neg (fun h => by have := h.1; have := HIL.out; omega)]
                have TS5 := Lib.hid (TA.out.free HX.out hs.out D5.out S5.out he0)
                clear hlast hls hne hc he0 hne2
                go_wp2_with fail
                go_roundw
                case rel => exact ⟨i + 1, A5, k5, c5, h5, As', ks', cs', rfl, by go_num, HIL.out, TS5⟩
                case measure => have := HIL.out; simp [intOf]; omega
          · have h1 : ¬ (0 : Int) < (x.count : Int) := by omega
            have h2 : decide ((0 : Int) < (x.count : Int)) = false := decide_eq_false h1
            clear hcz hstay
            go_wp2_with fail
            refine (lgfree_any h' _ gl l.a l.n l.size x.at' _ _ l.last l.synced wa TA.out.dk OKD.out TA.out.lb OK.out.s64 hxn OK.out.a0 OK.out.am PED.out).mono ?_
            rintro e w5 ⟨rfl, h5, hd5, hs5⟩
            have BX5 := Lib.hid (hs5.blk TA.out.dk BX.out (by decide) (by decide))
            have CU5 := Lib.hid (hs5.blk TA.out.dk TA.out.cur (by decide) (by decide))
            have D5 := Lib.hid hd5
            have S5 := Lib.hid hs5
            have t0 : w5.cell? ⟨g8, 0, none⟩ = some (.int .i64 (x.at' : Int)) := BX5.out.cell 0
            have t1 : w5.cell? ⟨g8, 1, none⟩ = some (.int .u64 (x.base : Int)) := BX5.out.cell 1
            have t2 : w5.cell? ⟨g8, 2, none⟩ = some (.int .u64 (x.count : Int)) := BX5.out.cell 2
            clear hd5 hs5
            rcases CI.out with ⟨he, hc⟩ | ⟨hne, sl, hls, hc⟩
            · rw [hc] at CU5
              have u0 : w5.cell? ⟨w.heap.size, 0, none⟩ = some (.int .i64 (-1)) := CU5.out.cell 0
              have u1 : w5.cell? ⟨w.heap.size, 1, none⟩ = some (.int .u64 0) := CU5.out.cell 1
              have u2 : w5.cell? ⟨w.heap.size, 2, none⟩ = some (.int .u64 0) := CU5.out.cell 2
              have hx1 : ¬ (x.at' : Int) = -1 := by omega
              have hx2 : ((x.at' : Int) == -1) = false := by rw [beq_eq_false_iff_ne]; exact hx1
              have TS5 := Lib.hid (TA.out.free HX.out hs.out D5.out S5.out (by unfold trS; rw [he]; simp))
              clear he hc
              go_wp2_with fail
              go_roundw
              case rel => exact ⟨i + 1, A5, k5, c5, h5, As', ks', cs', rfl, by go_num, HIL.out, TS5⟩
              case measure => have := HIL.out; simp [intOf]; omega
            · rw [hc] at CU5
              have u0 : w5.cell? ⟨w.heap.size, 0, none⟩ = some (.int .i64 (sl.at' : Int)) := CU5.out.cell 0
              have u1 : w5.cell? ⟨w.heap.size, 1, none⟩ = some (.int .u64 (sl.base : Int)) := CU5.out.cell 1
              have u2 : w5.cell? ⟨w.heap.size, 2, none⟩ = some (.int .u64 (sl.count : Int)) := CU5.out.cell 2
              by_cases hlast : i + 1 = l.live.length
              · have hxs : x = sl := by
                  rw [List.getLast?_eq_getElem?, ← hlast, Nat.add_sub_cancel, HX.out] at hls
                  injection hls
                subst hxs
                have he0 : trS l seq (i + 1) = [] := by
                  unfold trS
                  rw [if_pos ⟨hlast, by rw [hls]; exact hs.out⟩]
                have g5 : w5.cell? ⟨gl, 5, none⟩ = some (.slice As' ks' cs') := (S5.out.lb TA.out.dk TA.out.lb).cell 5
                have f5 := (S5.out.lb TA.out.dk TA.out.lb).free 5
                have TS5 := Lib.hid (TA.out.freeCur HX.out hs.out D5.out S5.out he0)
                clear hlast hls hne hc he0
                go_wp2_with fail
                go_roundw
                case rel => exact ⟨i + 1, A5, k5, c5, h5, none, 0, 0, rfl, by go_num, HIL.out, TS5⟩
                case measure => have := HIL.out; simp [intOf]; omega
              · have hne2 : x.at' ≠ sl.at' := fun e9 => by
                  have hnd := OK.out.nd
                  have h8 := HIL.out
                  rw [List.getLast?_eq_getElem?] at hls
                  have h6 : (l.live.map (·.at'))[i]? = some x.at' := by rw [List.getElem?_map, HX.out]; rfl
                  have h7 : (l.live.map (·.at'))[l.live.length - 1]? = some sl.at' := by rw [List.getElem?_map, hls]; rfl
                  have h5 := (List.getElem?_inj (i := i) (j := l.live.length - 1) (by rw [List.length_map]; exact h8) hnd).1 (h6.trans (by rw [h7, e9]))
                  omega
                have hx1 : ¬ (x.at' : Int) = (sl.at' : Int) := by omega
                have hx2 : ((x.at' : Int) == (sl.at' : Int)) = false := by rw [beq_eq_false_iff_ne]; exact hx1
                have he0 : trS l seq (i + 1) = trS l seq i := by
                  unfold trS
                  rw [if_neg (fun h => hlast h.1), if_neg (fun h => by have := h.1; have := HIL.out; omega)]
                have TS5 := Lib.hid (TA.out.free HX.out hs.out D5.out S5.out he0)
                clear hlast hls hne hc he0 hne2
                go_wp2_with fail
                go_roundw
                case rel => exact ⟨i + 1, A5, k5, c5, h5, As', ks', cs', rfl, by go_num, HIL.out, TS5⟩
                case measure => have := HIL.out; simp [intOf]; omega
      · obtain rfl : l.live.length = i := by omega
        have l4 : wr.cell? ⟨gl, 4, none⟩ = some (.slice Al l.live.length cl) := TS.out.lb.cell 4
        have f4 := TS.out.lb.free 4
        go_upto_region 17 with (fail)
        generalize hW8 : wr.setCell _ _ = W8 at *
        have DN := Lib.hid (TS.out.done hW8)
        clear hW8 l4 f4
        go_wp2_with fail
        refine (lgsync_any h' _ gl l.a l.n l.size _ _ l.last l.synced W8 DN.out.1.dk (wTruncD_ok OK.out.dok _ _ _ _) DN.out.1.lb).mono ?_
        rintro e w9 ⟨rfl, h9, hd9, hl9, hm9⟩
        have G9 := Lib.hid (DN.out.1.sync hd9 hl9 hm9)
        have M9 := Lib.hid (DN.out.2.mtp hm9)
        have E : Hid (wTrunc l seq = (({ l with D := wTruncD l.D l.a l.size seq l.live, live := l.live.filter (·.stays seq), stream := trS l seq l.live.length } : Wl).sync, 0)) := by
          rw [Hid, trS_end]
          unfold wTrunc
          rw [if_neg HS.out]
        clear hd9 hl9 hm9
        go_wp2_with fail
        go_ret
        refine ⟨by rw [E.out]; rfl, h9, ?_, M9.out⟩
        rw [E.out]
        exact ⟨_, _, G9.out⟩
end Go.Proofs.YtojlldalhhibmaaGreatDoor
