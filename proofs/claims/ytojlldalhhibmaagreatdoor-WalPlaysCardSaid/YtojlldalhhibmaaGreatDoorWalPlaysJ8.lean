/- What the proof of WalPlays needs, part 8. -/
import Derived.Test.YtojlldalhhibmaaGreatDoorWalPlaysJ7
import Derived.Deep.RegionLaw
import Derived.Deep.Cut
import Derived.Deep.DeepCutAuto
import Derived.StillTailTactics
import Derived.Deep.LoopGhost
import Derived.Deep.RegionHeld3
import Derived.IntWalk

namespace Go.Proofs.YtojlldalhhibmaaGreatDoor
open Go Go.RowKit
set_option linter.unusedVariables false

/-- The log's own cell k is put. -/
theorem lg_put {w W : World} {h h' : Zn} {D D' : Dsk} {gl : Nat} {cs : Array Value} (hd : Dk W h' D') (hl : Blk W gl 75 cs) (m : Mtp h gl w h' W) (k : Nat) (u : Value) :
    Dk (W.setCell ⟨gl, k, none⟩ u) h' D' ∧ Blk (W.setCell ⟨gl, k, none⟩ u) gl 75 (cs.setIfInBounds k u) ∧ Mtp h gl w h' (W.setCell ⟨gl, k, none⟩ u) :=
  ⟨hd.same (SameK.setCell (p := ⟨gl, k, none⟩) hl (by decide) u), hl.put k u, m.g, m.turn.setCell (p := ⟨gl, k, none⟩) (.inl (.inr rfl)) u, m.has⟩

set_option maxHeartbeats 1000000 in
theorem lgsync_any (h : Zn) (D : Dsk) (gl : Nat) (a : Int) (n size : Nat) (lv sv : Value) (last synced : Nat) (w : World) (hd : Dk w h D) (hok : D.Ok) (hl : Lb w gl h.g a n size lv sv last synced) :
    Calls Tryz.prog 15 #[.pointer (some ⟨gl, 0, none⟩)] w fun e w' => e = .returned (.tuple #[]) ∧ ∃ h', Dk w' h' D.sync ∧ Lb w' gl h.g a n size lv sv last last ∧ Mtp h gl w h' w' := by
  have HD := Lib.hid hd
  have HL := Lib.hid hl
  have l0 : w.cell? ⟨gl, 0, none⟩ = some (.pointer (some ⟨h.g, 0, none⟩)) := hl.cell 0
  clear hd hl
  go_enter Tryz.func15, Tryz.ntmps15
  go_wp2_with fail
  refine (dsync_any h D w HD.out hok).mono ?_
  rintro e w4 ⟨rfl, h4, hd4, hs4⟩
  have D4 := Lib.hid hd4
  have S4 := Lib.hid hs4
  have L4 := Lib.hid (hs4.lb HD.out HL.out)
  have l6 : w4.cell? ⟨gl, 6, none⟩ = some (.int .u64 (last : Int)) := L4.out.cell 6
  have l7 : w4.cell? ⟨gl, 7, none⟩ = some (.int .u64 (synced : Int)) := L4.out.cell 7
  have f7 := L4.out.free 7
  clear hd4 hs4 l0
  go_wp2_with fail
  go_end0
  have := lg_put (D := D) D4.out L4.out (Mtp.of_stp S4.out) 7 (.int .u64 (last : Int))
  exact ⟨rfl, h4, this.1, this.2.1, this.2.2⟩
set_option maxHeartbeats 1000000 in
theorem lgroom_any (gl hg : Nat) (a : Int) (n size : Nat) (lv sv : Value) (last synced : Nat) (w : World) (hl : Lb w gl hg a n size lv sv last synced) (hs : size ≤ 64) :
    Calls Tryz.prog 37 #[.pointer (some ⟨gl, 0, none⟩)] w fun e w' => e = .returned (.int .i64 ((512 * size : Nat) : Int)) ∧ w = w' := by
  have l3 : w.cell? ⟨gl, 3, none⟩ = some (.int .i64 (size : Int)) := hl.cell 3
  have hw : IntKind.i64.wrap ((size : Int) * 512) = ((512 * size : Nat) : Int) := by rw [i64_in (by omega) (by omega)]; omega
  clear hl
  go_enter Tryz.func37, Tryz.ntmps37
  go_wp2_with fail
  go_ret
  exact ⟨rfl, rfl⟩
set_option maxHeartbeats 1000000 in
theorem lglast_any (gl hg : Nat) (a : Int) (n size : Nat) (lv sv : Value) (last synced : Nat) (w : World) (hl : Lb w gl hg a n size lv sv last synced) :
    Calls Tryz.prog 20 #[.pointer (some ⟨gl, 0, none⟩)] w fun e w' => e = .returned (.int .u64 (last : Int)) ∧ w = w' := by
  have l6 : w.cell? ⟨gl, 6, none⟩ = some (.int .u64 (last : Int)) := hl.cell 6
  clear hl
  go_enter Tryz.func20, Tryz.ntmps20
  go_wp2_with fail
  go_ret
  exact ⟨rfl, rfl⟩
set_option maxHeartbeats 1000000 in
theorem lgsynced_any (gl hg : Nat) (a : Int) (n size : Nat) (lv sv : Value) (last synced : Nat) (w : World) (hl : Lb w gl hg a n size lv sv last synced) :
    Calls Tryz.prog 22 #[.pointer (some ⟨gl, 0, none⟩)] w fun e w' => e = .returned (.int .u64 (synced : Int)) ∧ w = w' := by
  have l7 : w.cell? ⟨gl, 7, none⟩ = some (.int .u64 (synced : Int)) := hl.cell 7
  clear hl
  go_enter Tryz.func22, Tryz.ntmps22
  go_wp2_with fail
  go_ret
  exact ⟨rfl, rfl⟩
set_option maxHeartbeats 1000000 in
theorem lglive_any (gl hg : Nat) (a : Int) (n size : Nat) (lv sv : Value) (last synced : Nat) (live : List Sg) (w : World) (hl : Lb w gl hg a n size lv sv last synced) (hs : Rg3 w lv live) :
    Calls Tryz.prog 21 #[.pointer (some ⟨gl, 0, none⟩)] w fun e w' => e = .returned (.int .i64 (live.length : Int)) ∧ w = w' := by
  have l4 : w.cell? ⟨gl, 4, none⟩ = some lv := hl.cell 4
  obtain ⟨A, c, rfl, -⟩ := hs.at
  clear hl hs
  go_enter Tryz.func21, Tryz.ntmps21
  go_wp2_with fail
  go_ret
  exact ⟨rfl, rfl⟩
end Go.Proofs.YtojlldalhhibmaaGreatDoor

namespace Go.Proofs.YtojlldalhhibmaaGreatDoor
open Go Go.RowKit
set_option linter.unusedVariables false

theorem elemSg : Elem Tryz.prog 72 79 (.agg #[.int .i64 0, .int .u64 0, .int .u64 0]) 3 24 := Elem.mk' Tryz.underlying72 (by kernel_rfl) rfl (by omega)
theorem sgC_one (s : Sg) : ∀ y ∈ sgC s, y.oneCell' = true := by
  intro y hy
  simp only [sgC, List.mem_cons, List.not_mem_nil, or_false] at hy
  rcases hy with rfl | rfl | rfl <;> rfl
theorem sgcs_snoc (l : List Sg) (x : Sg) : sgcs (l ++ [x]) = sgcs l ++ sgC x := by simp [sgcs]
theorem Sl.newsg (w : World) (x : Sg) {g : Nat} (hg : g = w.heap.size) : Sl (fun _ => True) (w.alloc (.cells (sgC x).toArray 79)) 3 (.slice (some ⟨g, 0, none⟩) 1 1) 1 (sgC x) := by
  have := KSl.new w 79 3 (by omega) (sgC x).toArray 1 (by omega) (by simp [maxLen]) (by simp [sgC]) hg
  rw [List.toList_toArray] at this
  exact Sl.more this fun _ _ => trivial
theorem Rr.at {w : World} {v : Value} {l : List Rcd} (h : Rr w v l) : ∃ A c, v = .slice A l.length c ∧ l.length ≤ c ∧ c ≤ maxLen ∧
    (0 < l.length → ∃ b o, A = some ⟨b, o, none⟩ ∧ b < w.heap.size ∧ kindAt w b = some (some 71) ∧ ∀ j (hj : j < l.length), w.cell? ⟨b, o + j * 2, none⟩ = some (.int .u64 (l[j].1 : Int)) ∧ w.cell? ⟨b, o + j * 2 + 1, none⟩ = some (.string (st l[j].2))) := by
  obtain ⟨_, A, c, h2, h3, h4, h5, h6⟩ := h
  refine ⟨A, c, h2, h3, h4, fun hn => ?_⟩
  obtain ⟨b, o, ha, hs, hc⟩ := h6 hn
  refine ⟨b, o, ha, kind_lt hs, hs, fun j hj => ?_⟩
  have key : ∀ (l : List Rcd) (j : Nat) (hj : j < l.length), (rcs l)[j * 2]? = some (.int .u64 (l[j].1 : Int)) ∧ (rcs l)[j * 2 + 1]? = some (.string (st l[j].2)) := by
    intro l
    induction l with
    | nil => intro j hj; cases hj
    | cons r rs ih =>
      intro j hj
      rcases j with _ | j
      · exact ⟨rfl, rfl⟩
      · have := ih j (by simpa using hj)
        rw [show (j + 1) * 2 = j * 2 + 1 + 1 by omega]
        simpa [rcs] using this
  have := key l j hj
  exact ⟨hc _ _ this.1, by rw [Nat.add_assoc]; exact hc _ _ this.2⟩
def tkRecs (x : Fd) (frm : Nat) : List Rcd := x.recs.filter fun r => decide (frm < r.1)
theorem own_lower {e : TypeId} {size n B B' : Nat} {w : World} {v : Value} {xs : List Value} (h : w.ownsRow B e size v n xs) (hB : B' ≤ B) : w.ownsRow B' e size v n xs := by
  obtain ⟨h1, h2⟩ := h
  refine ⟨h1, ?_⟩
  rcases h2 with h2 | ⟨g, cap, cur, hv, hg, r⟩
  · exact .inl h2
  · exact .inr ⟨g, cap, cur, hv, Nat.le_trans hB hg, r⟩
def TkPost (gl hg : Nat) (a : Int) (n size : Nat) (sv : Value) (synced : Nat) (live : List Sg) (x : Fd) (frm B : Nat) (w : World) (e : Ending) (w' : World) : Prop :=
  ∃ A k c A' k' c', e = .returned (.slice A k c) ∧ w'.ownsRow w.heap.size 71 2 (.slice A k c) (tkRecs x frm).length (rcs (tkRecs x frm)) ∧ Lb w' gl hg a n size (.slice A' k' c') sv x.last synced ∧
    w'.ownsRow B 79 3 (.slice A' k' c') (live.length + 1) (sgcs (live ++ [x.sg])) ∧ Below B w w' ∧ SameK [some 81, some 71, some 37] w w'

theorem u64_pred (m : Nat) : IntKind.u64.wrap ((m : Int) - 1) = (((m + (U64 - 1)) % U64 : Nat) : Int) := by
  simp only [IntKind.wrap, IntKind.bits, IntKind.signed]
  unfold U64
  simp
  omega
theorem fd_last (x : Fd) : x.last = (((x.base + x.recs.length) % U64) + (U64 - 1)) % U64 := by
  unfold Fd.last
  rw [Nat.mod_add_mod]
/-- What holds behind the segment's append. -/
structure TkC (gl hg : Nat) (a : Int) (n size : Nat) (sv : Value) (last synced : Nat) (live : List Sg) (x : Sg) (cs : Array Value) (B : Nat) (w : World) (A : Option Addr) (k c : Nat) (W : World) : Prop where
  lb : Lb W gl hg a n size (.slice A k c) sv last synced
  own : W.ownsRow B 79 3 (.slice A k c) (live.length + 1) (sgcs (live ++ [x]))
  box : Blk W w.heap.size 81 cs
  below : Below B w W
  same : SameK [some 81, some 71, some 37] w W
  size : w.heap.size < W.heap.size
theorem TkC.drew {gl hg : Nat} {a : Int} {n size : Nat} {sv : Value} {last synced : Nat} {live : List Sg} {x : Sg} {cs : Array Value} {B : Nat} {w : World} {A : Option Addr} {k c : Nat} {W : World} (t : TkC gl hg a n size sv last synced live x cs B w A k c W) : TkC gl hg a n size sv last synced live x cs B w A k c W.drew :=
  ⟨t.lb, t.own, t.box, t.below.drew, t.same.trans (SameK.drew W), t.size⟩
theorem tk_one {gl hg : Nat} {a : Int} {n size : Nat} {sv : Value} {last synced : Nat} {live : List Sg} {x : Sg} {cs : Array Value} {B : Nat} {w w1 w2 : World} {A A2 : Option Addr} {k c k2 c2 : Nat} {o : Obj} {u : List Value} (hB : B ≤ w.heap.size) (hBg : B ≤ gl) (hl : Lb w1 gl hg a n size (.slice A k c) sv last synced) (hown : w1.ownsRow B 79 3 (.slice A k c) live.length (sgcs live))
    (hb : Blk w1 w.heap.size 81 cs) (h1 : Below w.heap.size w w1) (hs : w.heap.size < w1.heap.size) (hx : sgC x = u) (hown2 : w2.ownsRow B 79 3 (.slice A2 k2 c2) (live.length + 1) (sgcs live ++ u)) (hgr : (w1.alloc o).grownBy w2 (Value.slice A k c).ownBlock) :
    TkC gl hg a n size sv last synced live x cs B w A2 k2 c2 (w2.setCell ⟨gl, 4, none⟩ (.slice A2 k2 c2)) := by
  have qa := (Below.refl w1.heap.size w1).alloc (Nat.le_refl _) o
  have ho := World.ownsRow.alloc hown o
  have hl2 : Blk w2 gl _ _ := (hl.alloc o).kept ho hgr (by decide)
  have hb2 : Blk w2 w.heap.size _ _ := (hb.alloc o).kept ho hgr (by decide)
  have hne := hb2.ne hl2 (by decide)
  subst hx
  refine ⟨hl2.put 4 _, ?_, hb2.far (p := ⟨gl, 4, none⟩) hne _, ?_, ?_, ?_⟩
  · rw [sgcs_snoc]
    exact own_set hown2 hl2 (by decide) 4 _
  · exact (below_grown_own (((h1.mono hB).trans (qa.mono (Nat.le_trans hB (Nat.le_of_lt hs))))) ho hgr (Nat.le_trans (Nat.le_trans hB (Nat.le_of_lt hs)) qa.size)).setCell hBg _
  · refine (((SameK.below h1).trans (SameK.below qa)).trans (SameK.grown hgr fun z t hz ht => ?_)).trans (SameK.setCell (p := ⟨gl, 4, none⟩) hl2 (by decide) _)
    have := kind_own ho hz
    rw [this] at ht
    cases ht
    decide
  · have h3 : (w1.alloc o).heap.size ≤ w2.heap.size := hgr.size
    have h4 := qa.size
    simp
    omega

set_option maxHeartbeats 4000000 in
set_option maxRecDepth 100000 in
theorem lgtake_any (gl hg : Nat) (a : Int) (n size : Nat) (lv sv : Value) (last synced : Nat) (live : List Sg) (x : Fd) (rv : Value) (frm B : Nat) (w : World) (hl : Lb w gl hg a n size lv sv last synced) (hown : w.ownsRow B 79 3 lv live.length (sgcs live)) (hB : B ≤ w.heap.size) (hBg : B ≤ gl)
    (hr : Rr w rv x.recs) (hlr : x.recs.length ≤ 1000000) (hxb : x.base < U64) (hlive : live.length ≤ 100) (hf : frm < U64) :
    Calls Tryz.prog 26 #[.pointer (some ⟨gl, 0, none⟩), .agg #[.int .i64 (x.at' : Int), .int .u64 (x.base : Int), .int .u64 (x.recs.length : Int), rv], .int .u64 (frm : Int)] w (TkPost gl hg a n size sv synced live x frm B w) := by
  obtain ⟨Ar, cr, rfl, hlc, hcm, hA⟩ := hr.at
  have HR := Lib.hid hr
  have HO := Lib.hid hown
  have HL := Lib.hid hl
  have hx3 : x.sg.count = x.recs.length := Nat.mod_eq_of_lt (by unfold U64; omega)
  have HX3 := Lib.hid hx3
  obtain ⟨Al, kl, cl, rfl⟩ := own_slice hown
  clear hr hl hA hx3
  have q1 : Below B w (w.alloc (.cells #[.int .i64 (x.at' : Int), .int .u64 (x.base : Int), .int .u64 (x.recs.length : Int), .slice Ar x.recs.length cr] 81)) := (Below.refl _ _).alloc hB _
  have hb := Blk.new w 81 #[.int .i64 (x.at' : Int), .int .u64 (x.base : Int), .int .u64 (x.recs.length : Int), .slice Ar x.recs.length cr]
  have qa := (Below.refl w.heap.size w).alloc (Nat.le_refl _) (.cells #[.int .i64 (x.at' : Int), .int .u64 (x.base : Int), .int .u64 (x.recs.length : Int), .slice Ar x.recs.length cr] 81)
  have hl1 : Blk _ gl _ _ := HL.out.later qa
  have HO1 := Lib.hid (own_later HO.out qa)
  have HR1 := Lib.hid (KSl.later HR.out qa)
  have hz1 : w.heap.size < (w.alloc (.cells #[.int .i64 (x.at' : Int), .int .u64 (x.base : Int), .int .u64 (x.recs.length : Int), .slice Ar x.recs.length cr] 81)).heap.size := by simp
  clear hown
  go_enter Tryz.func26, Tryz.ntmps26
  go_wp2_with fail
  generalize hw1 : w.alloc _ = w1 at *
  clear hw1
  have l4 : w1.cell? ⟨gl, 4, none⟩ = some (.slice Al kl cl) := hl1.cell 4
  have b0 : w1.cell? ⟨w.heap.size, 0, none⟩ = some (.int .i64 (x.at' : Int)) := hb.cell 0
  have b1 : w1.cell? ⟨w.heap.size, 1, none⟩ = some (.int .u64 (x.base : Int)) := hb.cell 1
  have b2 : w1.cell? ⟨w.heap.size, 2, none⟩ = some (.int .u64 (x.recs.length : Int)) := hb.cell 2
  have a4 : (w1.alloc (.cells #[.int .i64 (x.at' : Int), .int .u64 (x.base : Int), .int .u64 (x.recs.length : Int)] 79)).cell? ⟨gl, 4, none⟩ = some (.slice Al kl cl) := (hl1.alloc _).cell 4
  have HSG : Hid (sgC x.sg = [.int .i64 (x.at' : Int), .int .u64 (x.base : Int), .int .u64 (x.recs.length : Int)]) := by rw [Hid, sgC, HX3.out]; rfl
  have hs1 := Sl.newsg w1 x.sg rfl
  rw [HSG.out] at hs1
  have HS1 := Lib.hid hs1
  have HB1 := Lib.hid hb
  have HL1 := Lib.hid hl1
  have hone := Lib.hid (by have := sgC_one x.sg; rw [HSG.out] at this; exact this)
  clear hs1 hb hl1
  have HQA := Lib.hid qa
  clear qa
  go_cut [] (fun wx => ∃ A2 k2 c2, Hid (TkC gl hg a n size sv last synced live x.sg #[.int .i64 (x.at' : Int), .int .u64 (x.base : Int), .int .u64 (x.recs.length : Int), .slice Ar x.recs.length cr] B w A2 k2 c2 wx))
  case first =>
    go_region_law (refine step_append_sl (w1.alloc (.cells #[.int .i64 (x.at' : Int), .int .u64 (x.base : Int), .int .u64 (x.recs.length : Int)] 79)) (by first | exact ⟨0, rfl⟩ | exact ⟨1, rfl⟩ | exact ⟨2, rfl⟩ | exact ⟨3, rfl⟩) rfl (.tmp 14) (.tmp 17) elemSg rfl (World.ownsRow.alloc HO1.out _) HS1.out rfl rfl hone.out (by simp only [maxLen]; omega) (by omega) (by simp; omega) ?_; intro A2 k2 c2 w2 hown2 hg2; have hl2 := (HL1.out.alloc _).kept (World.ownsRow.alloc HO1.out _) hg2 (by decide); have g0 := hl2.free 4; have g2 := hl2.cell 4; simp [lgC] at g2)
    all_goals
      have TC := tk_one (hB := hB) (hBg := hBg) HL1.out HO1.out HB1.out HQA.out hz1 HSG.out hown2 hg2
      go_wp2_with fail
      go_meet
      first
        | exact ⟨A2, k2, c2, TC.drew⟩
        | exact ⟨A2, k2, c2, TC⟩
        | exact ⟨A2, k2, c2, TC.drew.drew⟩
  obtain ⟨A2, k2, c2, TC⟩ := hcut
  have HRC := Lib.hid (KSl.same HR.out TC.out.same (by decide))
  have l6 : wc.cell? ⟨gl, 6, none⟩ = some (.int .u64 (last : Int)) := TC.out.lb.cell 6
  have f6 := TC.out.lb.free 6
  have b1 : wc.cell? ⟨w.heap.size, 1, none⟩ = some (.int .u64 (x.base : Int)) := TC.out.box.cell 1
  have b2 : wc.cell? ⟨w.heap.size, 2, none⟩ = some (.int .u64 (x.recs.length : Int)) := TC.out.box.cell 2
  have b3 : wc.cell? ⟨w.heap.size, 3, none⟩ = some (.slice Ar x.recs.length cr) := TC.out.box.cell 3
  have hwa := u64_add x.base x.recs.length
  have hwb : IntKind.u64.wrap ((((x.base + x.recs.length) % U64 : Nat) : Int) - 1) = ((x.last : Nat) : Int) := by rw [u64_pred, fd_last]
  have hwb2 : IntKind.u64.wrap (((x.base : Int) + (x.recs.length : Int)) % (U64 : Int) - 1) = ((x.last : Nat) : Int) := by
    rw [← hwb]
    push_cast
    rfl
  have hgb : w.heap.size ≠ gl := TC.out.box.ne TC.out.lb (by decide)
  have L3 : Hid (Lb (wc.setCell ⟨gl, 6, none⟩ (.int .u64 (x.last : Int))) gl hg a n size (.slice A2 k2 c2) sv x.last synced) := TC.out.lb.put 6 _
  have O3 := Lib.hid (own_set TC.out.own TC.out.lb (by decide) 6 (.int .u64 (x.last : Int)))
  have Q3 := Lib.hid (TC.out.below.setCell (p := ⟨gl, 6, none⟩) hBg (.int .u64 (x.last : Int)))
  have K3 := Lib.hid (TC.out.same.trans (SameK.setCell (p := ⟨gl, 6, none⟩) TC.out.lb (by decide) (.int .u64 (x.last : Int))))
  have R3 := Lib.hid (KSl.same HRC.out (SameK.setCell (ks := [some 71]) (p := ⟨gl, 6, none⟩) TC.out.lb (by decide) (.int .u64 (x.last : Int))) (by decide))
  have Z3 : Hid (w.heap.size ≤ (wc.setCell ⟨gl, 6, none⟩ (.int .u64 (x.last : Int))).heap.size) := by have := TC.out.size; simp [Hid]; omega
  clear TC HRC HR HO HL HB1 HL1 HO1 HR1 HS1 hone HSG HX3 HQA q1 hz1 l4 b0 a4
  go_wp2_with fail
  generalize wc.setCell _ _ = w3 at *
  clear l6 f6 b1 b2 b3 hwa hwb hwb2 hgb
  have OB : Hid (w3.heap.size ≤ w3.heap.size) := Nat.le_refl _
  go_loopw [7, 35] (fun ov kv wr => ∃ (i : Nat) (A : Option Addr) (m c : Nat), ov = .slice A m c ∧ kv = .int .i64 (i : Int) ∧ i ≤ x.recs.length ∧ Hid (wr.ownsRow w3.heap.size 71 2 (.slice A m c) ((x.recs.take i).filter fun r => decide (frm < r.1)).length (rcs ((x.recs.take i).filter fun r => decide (frm < r.1)))) ∧ Hid (Below w3.heap.size w3 wr)) (fun _ kv _ => x.recs.length - (intOf kv).toNat)
  case atStart => exact ⟨0, none, 0, 0, rfl, rfl, Nat.zero_le _, World.ownsRow_nil _ _ _ _, Below.refl _ _⟩
  case round =>
    obtain ⟨i, A, m, c, rfl, rfl, hi, OW, BL⟩ := hrel
    by_cases hlt : i < x.recs.length
    · obtain ⟨A', c', he, _, _, hat⟩ := Rr.at (KSl.later R3.out BL.out)
      injection he with e1 _ e3
      subst e1 e3
      obtain ⟨b, o, rfl, hbl, hkb, hcell⟩ := hat (by omega)
      obtain ⟨r0, r1⟩ := hcell i hlt
      have HT : Hid (x.recs.take (i + 1) = x.recs.take i ++ [x.recs[i]]) := by rw [Hid, List.take_add_one, List.getElem?_eq_getElem hlt]; rfl
      have hlen : Hid (((x.recs.take i).filter fun r => decide (frm < r.1)).length ≤ 1000000) := by
        have h1 := List.length_filter_le (fun r : Rcd => decide (frm < r.1)) (x.recs.take i)
        rw [List.length_take] at h1
        rw [Hid]
        omega
      clear hcell hat
      generalize x.recs[i] = r at *
      obtain ⟨q, t⟩ := r
      simp only at r0 r1
      have QA := Lib.hid (BL.out.trans (((Below.refl wr.heap.size wr).alloc (Nat.le_refl _) (.cells #[.int .u64 (q : Int), .string (st t)] 71)).mono BL.out.size))
      have OA := Lib.hid (own_later OW.out ((Below.refl wr.heap.size wr).alloc (Nat.le_refl _) (.cells #[.int .u64 (q : Int), .string (st t)] 71)))
      by_cases hq : frm < q
      · have hq2 : (frm : Int) < (q : Int) := by omega
        have HF : Hid ((x.recs.take (i + 1)).filter (fun r => decide (frm < r.1)) = (x.recs.take i).filter (fun r => decide (frm < r.1)) ++ [(q, t)]) := by rw [Hid, HT.out, List.filter_append]; simp [hq]
        have HQ := Lib.hid hq
        generalize hF : (x.recs.take i).filter (fun r => decide (frm < r.1)) = F at *
        clear hF hq
        have hM1 : Hid (F.length + 1 ≤ maxLen) := by have := hlen.out; simp only [Hid, maxLen]; omega
        have hM2 : Hid ((F.length + 1) * 24 ≤ 140737488355328) := by have := hlen.out; rw [Hid]; omega
        have hM3 : Hid (∀ o o' : Obj, w3.heap.size ≤ ((wr.alloc o).alloc o').heap.size) := fun o o' => by have := BL.out.size; simp; omega
        go_wp2_with (at_builtin; refine wpList_append_sl _ rfl (.tmp 43) (.tmp 45) elemRec rfl (World.ownsRow.alloc OA.out _) (Sl.newrec (S := fun _ => True) (g := wr.heap.size + 1) _ (q, t) (by simp) trivial) rfl rfl (rcs_one _) hM1.out hM2.out (hM3.out _ _) ?_; intro A8 k8 c8 w8 hown8 hg8 hat8)
        have B8 := Lib.hid (below_grown_own (QA.out.alloc (Nat.le_trans QA.out.size (Nat.le_refl _)) _) (World.ownsRow.alloc OA.out _) hg8 (hM3.out _ _))
        have O8 : Hid (w8.ownsRow w3.heap.size 71 2 (.slice A8 k8 c8) ((x.recs.take (i + 1)).filter (fun r => decide (frm < r.1))).length (rcs ((x.recs.take (i + 1)).filter (fun r => decide (frm < r.1))))) := by
          rw [Hid, HF.out, List.length_append, rcs_append]
          exact hown8
        go_roundw
        case rel => exact ⟨i + 1, A8, k8, c8, rfl, by go_num, by omega, O8, B8⟩
        case measure => simp [intOf]; omega
      · have hq2 : (q : Int) ≤ (frm : Int) := by omega
        have HF : Hid ((x.recs.take (i + 1)).filter (fun r => decide (frm < r.1)) = (x.recs.take i).filter (fun r => decide (frm < r.1))) := by rw [Hid, HT.out, List.filter_append]; simp [hq]
        clear hq
        have OA2 : Hid ((wr.alloc (.cells #[.int .u64 (q : Int), .string (st t)] 71)).ownsRow w3.heap.size 71 2 (.slice A m c) ((x.recs.take (i + 1)).filter (fun r => decide (frm < r.1))).length (rcs ((x.recs.take (i + 1)).filter (fun r => decide (frm < r.1))))) := by
          rw [Hid, HF.out]; exact OA.out
        go_wp2_with fail
        go_roundw
        case rel => exact ⟨i + 1, A, m, c, rfl, by go_num, by omega, OA2, QA⟩
        case measure => simp [intOf]; omega
    · obtain rfl : i = x.recs.length := by omega
      have ho := OW.out
      rw [List.take_length] at ho
      go_wp2_with fail
      go_ret
      exact ⟨A, m, c, A2, k2, c2, rfl, own_lower ho Z3.out, L3.out.later BL.out, own_later O3.out BL.out, Q3.out.trans (BL.out.mono (Nat.le_trans hB Z3.out)), K3.out.trans (SameK.below BL.out)⟩
end Go.Proofs.YtojlldalhhibmaaGreatDoor

namespace Go.Proofs.YtojlldalhhibmaaGreatDoor
open Go Go.RowKit
set_option linter.unusedVariables false

def fdV (x : Fd × Value) : Value := .agg #[.int .i64 (x.1.at' : Int), .int .u64 (x.1.base : Int), .int .u64 (x.1.recs.length : Int), x.2]
theorem fcs_get : ∀ (l : List (Fd × Value)) (j : Nat) (hj : j < l.length), (fcs l)[j * 4]? = some (.int .i64 (l[j].1.at' : Int)) ∧ (fcs l)[j * 4 + 1]? = some (.int .u64 (l[j].1.base : Int)) ∧ (fcs l)[j * 4 + 2]? = some (.int .u64 (l[j].1.recs.length : Int)) ∧ (fcs l)[j * 4 + 3]? = some l[j].2
  | x :: xs, 0, _ => ⟨rfl, rfl, rfl, rfl⟩
  | x :: xs, j + 1, hj => by
    have h := fcs_get xs j (by simpa using hj)
    have e : fcs (x :: xs) = fdC x ++ fcs xs := rfl
    have g : ∀ k, (fcs (x :: xs))[(j + 1) * 4 + k]? = (fcs xs)[j * 4 + k]? := fun k => by
      rw [e, List.getElem?_append_right (by simp [fdC]; omega)]
      congr 1
      simp [fdC]
      omega
    refine ⟨?_, ?_, ?_, ?_⟩
    · rw [show (j + 1) * 4 = (j + 1) * 4 + 0 by omega, g]; exact h.1
    · rw [g]; exact h.2.1
    · rw [g]; exact h.2.2.1
    · rw [g]; exact h.2.2.2
theorem Fs.at {w : World} {B : Nat} {v : Value} {l : List (Fd × Value)} (h : Fs w B v l) : ∃ A c, v = .slice A l.length c ∧ l.length ≤ c ∧ c ≤ maxLen ∧
    (0 < l.length → ∃ b o, A = some ⟨b, o, none⟩ ∧ b < w.heap.size ∧ kindAt w b = some (some 81) ∧ ∀ j (hj : j < l.length), w.cell? ⟨b, o + j * 4, none⟩ = some (.int .i64 (l[j].1.at' : Int)) ∧ w.cell? ⟨b, o + j * 4 + 1, none⟩ = some (.int .u64 (l[j].1.base : Int)) ∧
      w.cell? ⟨b, o + j * 4 + 2, none⟩ = some (.int .u64 (l[j].1.recs.length : Int)) ∧ w.cell? ⟨b, o + j * 4 + 3, none⟩ = some l[j].2) := by
  obtain ⟨_, A, c, h2, h3, h4, h5, h6⟩ := KSl.of_own (by omega) h.own
  refine ⟨A, c, h2, h3, h4, fun hn => ?_⟩
  obtain ⟨b, o, ha, hs, hc⟩ := h6 hn
  refine ⟨b, o, ha, kind_lt hs, hs, fun j hj => ?_⟩
  have hg := fcs_get l j hj
  refine ⟨hc _ _ hg.1, ?_, ?_, ?_⟩
  · rw [Nat.add_assoc]; exact hc _ _ hg.2.1
  · rw [Nat.add_assoc]; exact hc _ _ hg.2.2.1
  · rw [Nat.add_assoc]; exact hc _ _ hg.2.2.2

def goesOn (live : List Sg) (last : Nat) (x : Fd) : Bool := decide (x.base = (last + 1) % U64) && !usedL live x.at'
set_option maxHeartbeats 4000000 in
set_option maxRecDepth 100000 in
theorem open1_any (x : Fd × Value) (gp gl hg : Nat) (a : Int) (n size : Nat) (lv sv : Value) (last synced : Nat) (live : List Sg) (w : World) (hp : Blk w gp 37 #[.pointer (some ⟨gl, 0, none⟩)]) (hl : Lb w gl hg a n size lv sv last synced) (hs : Rg3 w lv live) :
    Calls Tryz.prog 28 #[fdV x, .pointer (some ⟨gp, 0, none⟩)] w fun e w' => e = .returned (.bool (goesOn live last x.1)) ∧ Below w.heap.size w w' := by
  obtain ⟨x, rv⟩ := x
  unfold fdV
  simp only
  have qa := (Below.refl w.heap.size w).alloc (Nat.le_refl _) (.cells #[.int .i64 (x.at' : Int), .int .u64 (x.base : Int), .int .u64 (x.recs.length : Int), rv] 81)
  have HB := Lib.hid (Blk.new w 81 #[.int .i64 (x.at' : Int), .int .u64 (x.base : Int), .int .u64 (x.recs.length : Int), rv])
  have HP := Lib.hid (hp.later qa)
  have HL : Hid (Lb (w.alloc (.cells #[.int .i64 (x.at' : Int), .int .u64 (x.base : Int), .int .u64 (x.recs.length : Int), rv] 81)) gl hg a n size lv sv last synced) := hl.later qa
  have HS := Lib.hid (KSl.later hs qa)
  have HQ := Lib.hid qa
  have hwr : IntKind.u64.wrap ((last : Int) + 1) = (((last + 1) % U64 : Nat) : Int) := by have := u64_add last 1; simpa using this
  clear hp hl hs qa
  obtain ⟨m, hm⟩ : ∃ m, (last + 1) % U64 = m := ⟨_, rfl⟩
  rw [hm] at hwr
  by_cases hx : x.base = m
  · have hg : goesOn live last x = !usedL live x.at' := by unfold goesOn; rw [hm, decide_eq_true hx, Bool.true_and]
    rw [hg]
    clear hg hm
    subst hx
    go_enter Tryz.func28, Tryz.ntmps28
    go_wp2_with fail
    generalize w.alloc _ = w1 at *
    have HW := Lib.hid HQ.out.size
    have b0 : w1.cell? ⟨w.heap.size, 0, none⟩ = some (.int .i64 (x.at' : Int)) := HB.out.cell 0
    have b1 : w1.cell? ⟨w.heap.size, 1, none⟩ = some (.int .u64 (x.base : Int)) := HB.out.cell 1
    have p0 : w1.cell? ⟨gp, 0, none⟩ = some (.pointer (some ⟨gl, 0, none⟩)) := HP.out.cell 0
    have l6 : w1.cell? ⟨gl, 6, none⟩ = some (.int .u64 (last : Int)) := HL.out.cell 6
    refine wp_region_grow_lit (by kernel_rfl) (by kernel_rfl) ?_
    apply Exists.intro
    apply And.intro
    · repeat (first
        | (apply wpGrow_skip rfl
           intro K hK
           go_simp
           refine hK _ ?_
           clear hK K)
        | (apply wpGrow_is rfl
           · intro wg hwg _
             have c0 := cell_later hwg b0
             have c1 := cell_later hwg b1
             have c2 := cell_later hwg p0
             have c3 := cell_later hwg l6
             unfold grows
             go_simp
             first
               | exact grows_value _ _
               | (exact grows_call (lgused_any gl hg a n size x.at' lv sv last synced live wg (HL.out.later hwg) (KSl.later HS.out hwg)))
           intro K hK
           go_simp
           refine hK _ ?_
           clear hK K))
      refine wpGrow_end (fun wg hwg _ => ?_)
      have qq := Lib.hid (HQ.out.trans (hwg.mono HW.out))
      clear b0 b1 p0 l6 hwr
      go_wp2_with fail
      go_ret
      exact ⟨rfl, qq.out⟩
    · apply And.intro
      · repeat (first | exact trivial | (refine ⟨Stays.is _, ?_⟩) | (refine ⟨Stays.bs _, ?_⟩) | (refine ⟨Stays.pg _ _ _, ?_⟩))
      · rfl
  · have hg : goesOn live last x = false := by unfold goesOn; rw [hm, decide_eq_false hx, Bool.false_and]
    have hxe : ((x.base : Int) == (m : Int)) = false := by rw [beq_eq_false_iff_ne]; omega
    rw [hg]
    clear hg hm hx
    go_enter Tryz.func28, Tryz.ntmps28
    go_wp2_with fail
    generalize w.alloc _ = w1 at *
    have HW := Lib.hid HQ.out.size
    have b0 : w1.cell? ⟨w.heap.size, 0, none⟩ = some (.int .i64 (x.at' : Int)) := HB.out.cell 0
    have b1 : w1.cell? ⟨w.heap.size, 1, none⟩ = some (.int .u64 (x.base : Int)) := HB.out.cell 1
    have p0 : w1.cell? ⟨gp, 0, none⟩ = some (.pointer (some ⟨gl, 0, none⟩)) := HP.out.cell 0
    have l6 : w1.cell? ⟨gl, 6, none⟩ = some (.int .u64 (last : Int)) := HL.out.cell 6
    refine wp_region_grow_lit (by kernel_rfl) (by kernel_rfl) ?_
    apply Exists.intro
    apply And.intro
    · repeat (first
        | (apply wpGrow_skip rfl
           intro K hK
           go_simp
           refine hK _ ?_
           clear hK K)
        | (apply wpGrow_is rfl
           · intro wg hwg _
             have c0 := cell_later hwg b0
             have c1 := cell_later hwg b1
             have c2 := cell_later hwg p0
             have c3 := cell_later hwg l6
             unfold grows
             go_simp
             first
               | exact grows_value _ _
               | (exact grows_call (lgused_any gl hg a n size x.at' lv sv last synced live wg (HL.out.later hwg) (KSl.later HS.out hwg)))
           intro K hK
           go_simp
           refine hK _ ?_
           clear hK K))
      refine wpGrow_end (fun wg hwg _ => ?_)
      have qq := Lib.hid (HQ.out.trans (hwg.mono HW.out))
      clear b0 b1 p0 l6 hwr
      go_wp2_with fail
      go_ret
      exact ⟨rfl, qq.out⟩
    · apply And.intro
      · repeat (first | exact trivial | (refine ⟨Stays.is _, ?_⟩) | (refine ⟨Stays.bs _, ?_⟩) | (refine ⟨Stays.pg _ _ _, ?_⟩))
      · rfl
end Go.Proofs.YtojlldalhhibmaaGreatDoor

namespace Go.Proofs.YtojlldalhhibmaaGreatDoor
open Go Go.RowKit
set_option linter.unusedVariables false

theorem find_take {α : Type} {p : α → Bool} {l : List α} {k : Nat} (hk : k < l.length) (h : (l.take k).find? p = none) : (l.take (k + 1)).find? p = if p l[k] then some l[k] else none := by
  rw [List.take_add_one, List.getElem?_eq_getElem hk, List.find?_append, h]
  simp [List.find?_cons]
  split <;> simp_all
theorem find_hit {α : Type} {p : α → Bool} {l : List α} {k : Nat} (hk : k < l.length) (h : (l.take k).find? p = none) (hp : p l[k] = true) : l.find? p = some l[k] := by
  conv => lhs; rw [← List.take_append_drop (k + 1) l]
  rw [List.find?_append, find_take hk h, if_pos hp]
  rfl
/-- What IndexFunc finds. -/
def FdAt (L : List (Fd × Value)) (live : List Sg) (last : Nat) (r : Int) : Prop :=
  (r = -1 ∧ wNext (L.map Prod.fst) live last = none) ∨ ∃ (j : Nat) (hj : j < L.length), r = (j : Int) ∧ wNext (L.map Prod.fst) live last = some L[j].1
theorem wNext_eq (all : List Fd) (live : List Sg) (last : Nat) : wNext all live last = all.find? (goesOn live last) := rfl

set_option maxHeartbeats 4000000 in
set_option maxRecDepth 100000 in
theorem fdindex_any (B : Nat) (v : Value) (L : List (Fd × Value)) (gp gl hg : Nat) (a : Int) (n size : Nat) (lv sv : Value) (last synced : Nat) (live : List Sg) (w : World) (hp : Blk w gp 37 #[.pointer (some ⟨gl, 0, none⟩)]) (hl : Lb w gl hg a n size lv sv last synced) (hs : Rg3 w lv live) (hv : Fs w B v L) :
    Calls Tryz.prog 27 #[v, .func (Fn.func 28) #[] #[.pointer (some ⟨gp, 0, none⟩)]] w fun e w' => ∃ r : Int, e = .returned (.int .i64 r) ∧ FdAt L live last r ∧ Below w.heap.size w w' := by
  obtain ⟨A, c, rfl, hlc, hcm, hA⟩ := hv.at
  have HA := Lib.hid hA
  have HP := Lib.hid hp
  have HL := Lib.hid hl
  have HS := Lib.hid hs
  have hm : L.length ≤ 9223372036854775807 := by unfold maxLen at hcm; omega
  clear hp hl hs hv hA
  go_enter Tryz.func27, Tryz.ntmps27
  go_wp2_with fail
  go_loopw [8] (fun kv wr => ∃ k : Nat, kv = .int .i64 (k : Int) ∧ k ≤ L.length ∧ Hid (((L.map Prod.fst).take k).find? (goesOn live last) = none) ∧ Hid (Below w.heap.size w wr)) (fun kv _ => L.length - (intOf kv).toNat)
  case atStart => exact ⟨0, rfl, Nat.zero_le _, rfl, Below.refl _ _⟩
  case round =>
    obtain ⟨k, rfl, hk, HU, BL⟩ := hrel
    by_cases hlt : k < L.length
    · obtain ⟨b, o, rfl, hbl, hkb, hcell⟩ := HA.out (by omega)
      obtain ⟨k0, k1, k2, k3⟩ := hcell k hlt
      have x0 := (BL.out.cell (p := ⟨b, o + k * 4, none⟩) hbl).trans k0
      have x1 := (BL.out.cell (p := ⟨b, o + k * 4 + 1, none⟩) hbl).trans k1
      have x2 := (BL.out.cell (p := ⟨b, o + k * 4 + 2, none⟩) hbl).trans k2
      have x3 := (BL.out.cell (p := ⟨b, o + k * 4 + 3, none⟩) hbl).trans k3
      have hlm : k < (L.map Prod.fst).length := by rw [List.length_map]; exact hlt
      have hgm : (L.map Prod.fst)[k] = L[k].1 := by simp
      have HT : Hid (((L.map Prod.fst).take (k + 1)).find? (goesOn live last) = if goesOn live last L[k].1 then some L[k].1 else none) := by
        have := find_take hlm HU.out
        rw [hgm] at this
        exact this
      have HH : Hid (goesOn live last L[k].1 = true → wNext (L.map Prod.fst) live last = some L[k].1) := fun h => by
        have := find_hit hlm HU.out (by rw [hgm]; exact h)
        rw [hgm] at this
        exact this
      have HF : Hid (∀ r : Int, r = (k : Int) → goesOn live last L[k].1 = true → FdAt L live last r) := fun r hr h => .inr ⟨k, hlt, hr, HH.out h⟩
      clear hcell k0 k1 k2 k3 hgm HH
      generalize L[k] = x at *
      obtain ⟨x, rv⟩ := x
      simp only at x0 x1 x2 x3
      go_wp2_with fail
      refine (open1_any (x, rv) gp gl hg a n size lv sv last synced live wr (HP.out.later BL.out) (HL.out.later BL.out) (KSl.later HS.out BL.out)).mono ?_
      rintro e w4 ⟨rfl, hb4⟩
      have B4 := Lib.hid (BL.out.trans (hb4.mono BL.out.size))
      simp only at HF HT ⊢
      cases hgo : goesOn live last x with
      | true =>
        have HR := Lib.hid (HF.out _ rfl hgo)
        clear hgo HF HT x0 x1 x2 x3
        go_wp2_with fail
        go_ret
        exact ⟨_, rfl, HR.out, B4.out⟩
      | false =>
        have HU2 : Hid (((L.map Prod.fst).take (k + 1)).find? (goesOn live last) = none) := by
          have := HT.out
          rw [hgo] at this
          exact this
        clear hgo HF HT x0 x1 x2 x3
        go_wp2_with fail
        go_roundw
        case rel => exact ⟨k + 1, by go_num, by omega, HU2, B4⟩
        case measure => simp [intOf]; omega
    · obtain rfl : k = L.length := by omega
      have hu := HU.out
      rw [List.take_of_length_le (by simp)] at hu
      go_wp2_with fail
      go_ret
      exact ⟨_, rfl, .inl ⟨rfl, hu⟩, BL.out⟩
end Go.Proofs.YtojlldalhhibmaaGreatDoor

namespace Go.Proofs.YtojlldalhhibmaaGreatDoor
open Go
set_option linter.unusedVariables false

theorem nodup_len : ∀ (n : Nat) (l : List Nat), l.Nodup → (∀ x ∈ l, x < n) → l.length ≤ n
  | 0, l, _, h => by
    cases l with
    | nil => simp
    | cons a l => have := h a (by simp); omega
  | n + 1, l, hd, h => by
    by_cases hm : n ∈ l
    · have h1 := nodup_len n (l.erase n) (hd.erase n) (fun x hx => by
        have h2 := (hd.mem_erase_iff).1 hx
        have := h x h2.2
        have := h2.1
        omega)
      rw [List.length_erase_of_mem hm] at h1
      omega
    · have := nodup_len n l hd (fun x hx => by
        have h2 := h x hx
        have : x ≠ n := fun e => hm (e ▸ hx)
        omega)
      omega

/-- Behind some segments of the chain. -/
structure ChSt (all : List Fd) (frm n : Nat) (live : List Sg) (last : Nat) (out : List Rcd) (nx : Option Fd) : Prop where
  eq : ∃ k, live.length + k = n + 1 ∧ wChain all frm k live last out nx = wChain all frm (n + 1) [] frm [] (wPick frm all none)
  nd : (live.map (·.at')).Nodup
  lt : ∀ s ∈ live, s.at' < n
  nx : ∀ x, nx = some x → usedL live x.at' = false ∧ x ∈ all
  out : out.length ≤ live.length * 40000
  last : last < U64
theorem ChSt.start {all : List Fd} {frm n : Nat} (hf : frm < U64) : ChSt all frm n [] frm [] (wPick frm all none) :=
  ⟨⟨n + 1, by simp, rfl⟩, by simp, by simp, fun x h => ⟨rfl, (wPick_mem frm _ _ h).resolve_right (by simp)⟩, by simp, hf⟩
theorem ChSt.len {all : List Fd} {frm n : Nat} {live : List Sg} {last : Nat} {out : List Rcd} {nx : Option Fd} (s : ChSt all frm n live last out nx) : live.length ≤ n := by
  have := nodup_len n (live.map (·.at')) s.nd (fun x hx => by
    obtain ⟨y, hy, rfl⟩ := List.mem_map.1 hx
    exact s.lt y hy)
  simpa using this
theorem ChSt.next {all : List Fd} {frm n : Nat} {live : List Sg} {last : Nat} {out : List Rcd} {x : Fd} (s : ChSt all frm n live last out (some x)) (hall : ∀ y ∈ all, y.at' < n ∧ y.recs.length ≤ 40000) :
    ChSt all frm n (live ++ [x.sg]) x.last (out ++ x.recs.filter fun r => decide (frm < r.1)) (wNext all (live ++ [x.sg]) x.last) := by
  obtain ⟨k, hk, he⟩ := s.eq
  obtain ⟨hu, hx⟩ := s.nx x rfl
  have hxn := hall x hx
  have hnd : ((live ++ [x.sg]).map (·.at')).Nodup := by
    rw [List.map_append, List.nodup_append]
    refine ⟨s.nd, by simp, fun a ha b hb => ?_⟩
    simp only [List.map_cons, List.map_nil, List.mem_singleton] at hb
    subst hb
    rintro rfl
    obtain ⟨y, hy, e⟩ := List.mem_map.1 ha
    have : usedL live x.at' = true := usedL_iff.2 ⟨y, hy, e⟩
    rw [hu] at this
    cases this
  have hlt : ∀ s ∈ live ++ [x.sg], s.at' < n := fun y hy => by
    rw [List.mem_append, List.mem_singleton] at hy
    rcases hy with hy | rfl
    · exact s.lt y hy
    · exact hxn.1
  have hl := nodup_len n _ hnd (fun z hz => by
    obtain ⟨y, hy, rfl⟩ := List.mem_map.1 hz
    exact hlt y hy)
  rw [List.length_map, List.length_append, List.length_singleton] at hl
  obtain ⟨k, rfl⟩ : ∃ j, k = j + 1 := ⟨k - 1, by omega⟩
  refine ⟨⟨k, by rw [List.length_append, List.length_singleton]; omega, ?_⟩, hnd, hlt, fun y hy => ?_, ?_, ?_⟩
  · rw [← he, wChain]
  · have := wNext_some hy
    exact ⟨this.2.2, this.1⟩
  · have h1 := List.length_filter_le (fun r : Rcd => decide (frm < r.1)) x.recs
    have h2 := s.out
    rw [List.length_append, List.length_append, List.length_singleton]
    omega
  · exact Nat.mod_lt _ (by unfold U64; omega)
theorem ChSt.end {all : List Fd} {frm n : Nat} {live : List Sg} {last : Nat} {out : List Rcd} (s : ChSt all frm n live last out none) : wChain all frm (n + 1) [] frm [] (wPick frm all none) = (live, last, out) := by
  obtain ⟨k, _, he⟩ := s.eq
  rw [← he]
  cases k <;> rfl
end Go.Proofs.YtojlldalhhibmaaGreatDoor

namespace Go.Proofs.YtojlldalhhibmaaGreatDoor
open Go Go.RowKit
set_option linter.unusedVariables false

theorem own_sameK {ks : List (Option TypeId)} {e : TypeId} {size n B : Nat} {w w' : World} {v : Value} {xs : List Value} (h : w.ownsRow B e size v n xs) (hs : SameK ks w w') (ht : some e ∈ ks) : w'.ownsRow B e size v n xs := by
  have hk := fun b => kind_own (b := b) h
  obtain ⟨h1, h2⟩ := h
  refine ⟨h1, ?_⟩
  rcases h2 with h2 | ⟨g, cap, cur, hv, hg, hh, r⟩
  · exact .inl h2
  · exact .inr ⟨g, cap, cur, hv, hg, (hs g _ ht (hk g (by rw [hv]; rfl))).trans hh, r⟩
def opKs : List (Option TypeId) := [some 81, some 71, some 37]
theorem Fs.same {w w' : World} {B : Nat} {v : Value} {L : List (Fd × Value)} (h : Fs w B v L) (hs : SameK opKs w w') : Fs w' B v L :=
  ⟨own_sameK h.own hs (by decide), fun x hx => ⟨KSl.same (h.recs x hx).1 hs (by decide), (h.recs x hx).2⟩⟩
theorem wLook_lt {f : SF} {a : Int} {size i q : Nat} {rs : List Rcd} (h : wLook f a size i = some (q, rs)) : q < U64 := by
  unfold wLook wLookB at h
  split at h
  · rename_i hg
    split at h
    · injection h with h
      injection h with h
      subst h
      exact recGet_lt' hg
    · cases h
  · cases h
/-- Open's state behind some segments of the chain (w9: the world ahead of the chain). -/
structure OpSt (w w9 wr : World) (hg : Nat) (a : Int) (n size : Nat) (lv : Value) (live : List Sg) (last : Nat) (ov : Value) (out : List Rcd) : Prop where
  lb : Lb wr w.heap.size hg a n size lv (.slice none 0 0) last 0
  gp : Blk wr (w.heap.size + 1) 37 #[.pointer (some ⟨w.heap.size, 0, none⟩)]
  lown : wr.ownsRow w.heap.size 79 3 lv live.length (sgcs live)
  same : SameK opKs w9 wr
  oown : wr.ownsRow w9.heap.size 71 2 ov out.length (rcs out)
  size : w9.heap.size ≤ wr.heap.size
  base : w.heap.size ≤ w9.heap.size
  below : Below w.heap.size w wr
section
variable {w w9 wr w2 w3 w4 : World} {hg : Nat} {a : Int} {n size : Nat} {lv lv' : Value} {live : List Sg} {last : Nat} {ov v4 : Value} {out tk : List Rcd}
theorem OpSt.later (s : OpSt w w9 wr hg a n size lv live last ov out) (hb : Below wr.heap.size wr w2) : OpSt w w9 w2 hg a n size lv live last ov out :=
  ⟨s.lb.later hb, s.gp.later hb, own_later s.lown hb, s.same.trans (SameK.below hb), own_later s.oown hb, Nat.le_trans s.size hb.size, s.base, s.below.trans (hb.mono s.below.size)⟩
theorem OpSt.drew (s : OpSt w w9 wr hg a n size lv live last ov out) : OpSt w w9 wr.drew hg a n size lv live last ov out := s.later (below_drewN (Below.refl _ _) 1)
theorem OpSt.next {x : Fd} (s : OpSt w w9 w2 hg a n size lv live last ov out) (hl3 : Lb w3 w.heap.size hg a n size lv' (.slice none 0 0) x.last 0) (hlo : w3.ownsRow w.heap.size 79 3 lv' (live.length + 1) (sgcs (live ++ [x.sg])))
    (hb : Below w.heap.size w2 w3) (hk : SameK opKs w2 w3) (hown4 : w4.ownsRow w9.heap.size 71 2 v4 (out.length + tk.length) (rcs out ++ rcs tk)) (hg4 : w3.grownBy w4 ov.ownBlock) :
    OpSt w w9 w4 hg a n size lv' (live ++ [x.sg]) x.last v4 (out ++ tk) := by
  have oo3 : w3.ownsRow w9.heap.size 71 2 ov out.length (rcs out) := own_sameK s.oown hk (by decide)
  have hnk : ∀ z t, ov.ownBlock = some z → kindAt w3 z = some t → t = some 71 := fun z t hz ht => by
    have := kind_own oo3 hz
    rw [this] at ht
    injection ht with ht
    exact ht.symm
  have q3 : Below w.heap.size w w3 := s.below.trans hb
  refine ⟨hl3.kept oo3 hg4 (by decide), (s.gp.sameK hk (by decide)).kept oo3 hg4 (by decide), ?_, fun b t ht hb9 => ?_, ?_, ?_, s.base, ?_⟩
  · rw [List.length_append, List.length_singleton]
    exact own_sameK (ks := [some 79]) hlo (SameK.grown hg4 fun z t hz ht => by rw [hnk z t hz ht]; decide) (by decide)
  · have h1 := s.same b t ht hb9
    have h2 := hk b t ht (kind_same h1 hb9)
    have hlt := kind_lt hb9
    have hz : w9.heap.size ≤ w3.heap.size := Nat.le_trans s.size hb.size
    have h3 := hg4.block b (by omega) (fun e => by
      have := (oo3.lt b e.symm).1
      omega)
    exact h3.trans (h2.trans h1)
  · rw [List.length_append, rcs_append]
    exact hown4
  · exact Nat.le_trans (Nat.le_trans s.size hb.size) hg4.size
  · exact below_grown_own q3 (own_lower oo3 s.base) hg4 q3.size

/-- Open's state behind the chain, while segments are given back. -/
structure OpE (h h' : Zn) (w wr : World) (a : Int) (n size : Nat) (lv : Value) (live : List Sg) (last synced : Nat) (ov : Value) (out : List Rcd) : Prop where
  lb : Lb wr w.heap.size h.g a n size lv (.slice none 0 0) last synced
  gp : Blk wr (w.heap.size + 1) 37 #[.pointer (some ⟨w.heap.size, 0, none⟩)]
  lown : wr.ownsRow w.heap.size 79 3 lv live.length (sgcs live)
  oown : wr.ownsRow w.heap.size 71 2 ov out.length (rcs out)
  st : Stp h w h' wr
theorem OpSt.fin {h : Zn} (s : OpSt w w9 wr h.g a n size lv live last ov out) : OpE h h w wr a n size lv live last 0 ov out :=
  ⟨s.lb, s.gp, s.lown, own_lower s.oown s.base, Stp.below s.below⟩
theorem OpE.step {h h1 h2 : Zn} {w1 : World} {D1 : Dsk} {synced : Nat} (s : OpE h h1 w w1 a n size lv live last synced ov out) (d : Dk w1 h1 D1) (st : Stp h1 w1 h2 w2) : OpE h h2 w w2 a n size lv live last synced ov out :=
  have hs : SameK [some 79, some 71] w1 w2 := st.same d (by decide) (by decide) (by decide)
  ⟨st.lb d s.lb, st.blk d s.gp (by decide) (by decide), own_sameK s.lown hs (by decide), own_sameK s.oown hs (by decide), s.st.trans st⟩
theorem OpE.later {h h1 : Zn} {w1 : World} {synced : Nat} (s : OpE h h1 w w1 a n size lv live last synced ov out) (hb : Below w1.heap.size w1 w2) : OpE h h1 w w2 a n size lv live last synced ov out :=
  ⟨s.lb.later hb, s.gp.later hb, own_later s.lown hb, own_later s.oown hb, s.st.trans (Stp.below hb)⟩
/-- The last number is put. -/
theorem OpE.put {h h1 : Zn} {w1 : World} {D1 : Dsk} {synced m : Nat} (s : OpE h h1 w w1 a n size lv live last synced ov out) (d : Dk w1 h1 D1) :
    OpE h h1 w (w1.setCell ⟨w.heap.size, 6, none⟩ (.int .u64 (m : Int))) a n size lv live m synced ov out ∧ Dk (w1.setCell ⟨w.heap.size, 6, none⟩ (.int .u64 (m : Int))) h1 D1 :=
  have hs : SameK [some 79, some 71, some 37] w1 (w1.setCell ⟨w.heap.size, 6, none⟩ (.int .u64 (m : Int))) := SameK.setCell (p := ⟨w.heap.size, 6, none⟩) s.lb (by decide) _
  ⟨⟨s.lb.put 6 _, s.gp.sameK hs (by decide), own_sameK s.lown hs (by decide), own_sameK s.oown hs (by decide), ⟨s.st.g, s.st.turn.setCell (p := ⟨w.heap.size, 6, none⟩) (.inr (Nat.le_refl _)) _, s.st.has⟩⟩,
   d.same (SameK.setCell (p := ⟨w.heap.size, 6, none⟩) s.lb (by decide) _)⟩
/-- The call that syncs: the log's own block is new. -/
theorem OpE.sync {h h1 h2 : Zn} {w1 : World} {D1 : Dsk} {synced : Nat} (s : OpE h h1 w w1 a n size lv live last synced ov out) (d : Dk w1 h1 D1) (hl : Lb w2 w.heap.size h.g a n size lv (.slice none 0 0) last last) (m : Mtp h1 w.heap.size w1 h2 w2) :
    OpE h h2 w w2 a n size lv live last last ov out := by
  have hs : SameK [some 79, some 71, some 37] w1 w2 := m.sameL d s.lb (by decide) (by decide) (by decide) (by decide)
  refine ⟨hl, s.gp.sameK hs (by decide), own_sameK s.lown hs (by decide), own_sameK s.oown hs (by decide), m.g.trans s.st.g, s.st.turn.trans m.turn fun b hb => ?_, fun b hb => ?_⟩
  · rcases hb with hb | rfl
    · exact s.st.has b hb
    · exact .inr (Nat.le_refl _)
  · rcases m.has b hb with h3 | h3
    · exact s.st.has b h3
    · exact .inr (Nat.le_trans s.st.turn.size h3)
end
end Go.Proofs.YtojlldalhhibmaaGreatDoor

namespace Go.Proofs.YtojlldalhhibmaaGreatDoor
open Go Go.RowKit
set_option linter.unusedVariables false

/-- Where the first one stands. -/
def FirstAt (L : List (Fd × Value)) (p : Option Fd) (r : Int) : Prop := (r = -1 ∧ p = none) ∨ ∃ (j : Nat) (hj : j < L.length), r = (j : Int) ∧ p = some L[j].1
theorem wPick_take {L : List (Fd × Value)} {frm i : Nat} (hi : i < L.length) : wPick frm ((L.map Prod.fst).take (i + 1)) none = wBest frm (wPick frm ((L.map Prod.fst).take i) none) L[i].1 := by
  have hlm : i < (L.map Prod.fst).length := by rw [List.length_map]; exact hi
  rw [List.take_add_one, List.getElem?_eq_getElem hlm, wPick_append]
  simp [wPick, wBest]
theorem wBest_no {frm : Nat} {b : Option Fd} {x : Fd} (h : x.fits frm = false) : wBest frm b x = b := by unfold wBest; rw [h]; simp
theorem wBest_yes {frm : Nat} {b : Option Fd} {x : Fd} (h : x.fits frm = true) (hb : betterB b x = true) : wBest frm b x = some x := by unfold wBest; rw [h, hb]; simp
theorem wBest_less {frm : Nat} {b : Option Fd} {x : Fd} (hb : betterB b x = false) : wBest frm b x = b := by unfold wBest; rw [hb]; simp

section
variable {D : Dsk} {a : Int} {n size frm last : Nat} {live : List Sg} {out : List Rcd} (h : wChain (wAll D.view a size n) frm (n + 1) [] frm [] (wPick frm (wAll D.view a size n) none) = (live, last, out))
include h
theorem ow_out : (wOpen D a n size frm).2 = out := by simp only [wOpen, h]
theorem ow_D : (wOpen D a n size frm).1.D = (wFreeAll D a size live n).sync := by simp only [wOpen, h, Wl.sync]
theorem ow_last : (wOpen D a n size frm).1.last = max last frm := by simp only [wOpen, h, Wl.sync]
theorem ow_synced : (wOpen D a n size frm).1.synced = max last frm := by simp only [wOpen, h, Wl.sync]
theorem ow_live : (wOpen D a n size frm).1.live = live := by simp only [wOpen, h, Wl.sync]
end
set_option maxHeartbeats 8000000 in
set_option maxRecDepth 100000 in
theorem lgopen_any (h : Zn) (D : Dsk) (a : Int) (n size frm : Nat) (w : World) (hd : Dk w h D) (hok : D.Ok) (hn2 : 2 ≤ n) (hn : n ≤ 64) (hs1 : 1 ≤ size) (hs : size ≤ 64) (h0 : 0 ≤ a) (h1 : a + (n : Int) * size ≤ 65536) (hf : frm < U64) (hp : D.pend.length ≤ 800000) :
    Calls Tryz.prog 7 #[.pointer (some ⟨h.g, 0, none⟩), .int .i64 a, .int .i64 (n : Int), .int .i64 (size : Int), .int .u64 (frm : Int)] w fun e w' => ∃ gl lv' sv' A k c h', e = .returned (.tuple #[.pointer (some ⟨gl, 0, none⟩), .slice A k c, .int .i64 0]) ∧
      Dk w' h' (wOpen D a n size frm).1.D ∧ Lb w' gl h.g a n size lv' sv' (wOpen D a n size frm).1.last (wOpen D a n size frm).1.synced ∧ Rg3 w' lv' (wOpen D a n size frm).1.live ∧ sv' = .slice none 0 0 ∧ w.heap.size ≤ gl ∧
      w'.ownsRow w.heap.size 71 2 (.slice A k c) (wOpen D a n size frm).2.length (rcs (wOpen D a n size frm).2) ∧ Stp h w h' w' := by
  have HD := Lib.hid hd
  have HOK := Lib.hid hok
  have HF := Lib.hid hf
  have HP := Lib.hid hp
  have hmul := seg_mul hn hs
  have hw1 : IntKind.i64.wrap ((n : Int) * size) = (n : Int) * size := i64_in (by omega) (by omega)
  have hw2 : IntKind.i64.wrap (65536 - (n : Int) * size) = 65536 - (n : Int) * size := i64_in (by omega) (by omega)
  clear hd hok hf hp
  go_enter Tryz.func7, Tryz.ntmps7
  go_wp2_with fail
  have qa : Below w.heap.size w ((w.alloc (.cells (lgC h.g a n size (.slice none 0 0) (.slice none 0 0) frm 0) 75)).alloc (.cells #[.pointer (some ⟨w.heap.size, 0, none⟩)] 37)) := ((Below.refl _ _).alloc (Nat.le_refl _) _).alloc (by simp) _
  have HL : Hid (Lb ((w.alloc (.cells (lgC h.g a n size (.slice none 0 0) (.slice none 0 0) frm 0) 75)).alloc (.cells #[.pointer (some ⟨w.heap.size, 0, none⟩)] 37)) w.heap.size h.g a n size (.slice none 0 0) (.slice none 0 0) frm 0) := (Blk.new _ _ _).alloc _
  have HG : Hid (Blk ((w.alloc (.cells (lgC h.g a n size (.slice none 0 0) (.slice none 0 0) frm 0) 75)).alloc (.cells #[.pointer (some ⟨w.heap.size, 0, none⟩)] 37)) (w.heap.size + 1) 37 #[.pointer (some ⟨w.heap.size, 0, none⟩)]) := by
    have := Blk.new (w.alloc (.cells (lgC h.g a n size (.slice none 0 0) (.slice none 0 0) frm 0) 75)) 37 #[.pointer (some ⟨w.heap.size, 0, none⟩)]
    simpa [Hid] using this
  have HQ := Lib.hid qa
  clear qa
  refine (lglook_any h D w.heap.size a n size (.slice none 0 0) (.slice none 0 0) frm 0 _ (HD.out.later HQ.out) HOK.out HL.out hn hs h0 (by omega)).mono ?_
  rintro e w2 ⟨v, L, rfl, hlk⟩
  have LK := Lib.hid hlk
  have HL2 : Hid (Lb w2 w.heap.size h.g a n size (.slice none 0 0) (.slice none 0 0) frm 0) := HL.out.later (LK.out.below)
  have HG2 := Lib.hid (HG.out.later LK.out.below)
  have HQ2 := Lib.hid (HQ.out.trans (LK.out.below.mono HQ.out.size))
  have HFS := Lib.hid LK.out.fs
  have HALL := Lib.hid LK.out.all
  obtain ⟨Av, cv, rfl, hlv, hcv, hAv⟩ := hlk.fs.at
  have HAV := Lib.hid hAv
  have hLn := LK.out.len
  clear hlk hAv LK HL HG HQ hw1 hw2
  go_wp2_with fail
  generalize ((w.alloc _).alloc _) = wx at *
  obtain ⟨m, hm⟩ : ∃ m, (frm + 1) % U64 = m := ⟨_, rfl⟩
  have HM := Lib.hid hm
  have hwr : IntKind.u64.wrap ((frm : Int) + 1) = (m : Int) := by have := u64_add frm 1; rw [hm] at this; simpa using this
  clear hm
  go_loopw [15, 58] (fun fv kv wr => ∃ (i : Nat) (r : Int), fv = .int .i64 r ∧ kv = .int .i64 (i : Int) ∧ i ≤ L.length ∧ Hid (FirstAt L (wPick frm ((L.map Prod.fst).take i) none) r) ∧ Hid (Below w2.heap.size w2 wr)) (fun _ kv _ => L.length - (intOf kv).toNat)
  case atStart => exact ⟨0, -1, rfl, rfl, Nat.zero_le _, .inl ⟨rfl, rfl⟩, Below.refl _ _⟩
  case round =>
    obtain ⟨i, r, rfl, rfl, hi, FA, BL⟩ := hrel
    by_cases hlt : i < L.length
    · skip
      obtain ⟨b, o, rfl, hbl, hkb, hcell⟩ := HAV.out (by omega)
      obtain ⟨k0, k1, k2, k3⟩ := hcell i hlt
      have x0 := (BL.out.cell (p := ⟨b, o + i * 4, none⟩) hbl).trans k0
      have x1 := (BL.out.cell (p := ⟨b, o + i * 4 + 1, none⟩) hbl).trans k1
      have x2 := (BL.out.cell (p := ⟨b, o + i * 4 + 2, none⟩) hbl).trans k2
      have x3 := (BL.out.cell (p := ⟨b, o + i * 4 + 3, none⟩) hbl).trans k3
      have HC := Lib.hid hcell
      have HPK := Lib.hid (wPick_take (frm := frm) hlt)
      clear hcell k0 k1 k2 k3
      obtain ⟨Ax, cx, hx2, -⟩ := Rr.at (HFS.out.recs _ (List.getElem_mem hlt)).1
      rw [hx2] at x3
      obtain ⟨y, hy⟩ : ∃ y, L[i].1 = y := ⟨_, rfl⟩
      rw [hy] at x0 x1 x2 x3 HPK
      obtain ⟨sm, hsm⟩ : ∃ sm, (y.base + y.recs.length) % U64 = sm := ⟨_, rfl⟩
      have hwq : IntKind.u64.wrap ((y.base : Int) + (y.recs.length : Int)) = (sm : Int) := by rw [u64_add, hsm]
      have HFI : Hid (y.fits frm = (decide (y.base ≤ m) && decide (m ≤ sm))) := by rw [Hid]; unfold Fd.fits; rw [HM.out, hsm]
      have HY := Lib.hid hy
      clear hx2 hsm hy
      go_wp2_with fail
      have BA := Lib.hid (BL.out.trans (((Below.refl wr.heap.size wr).alloc (Nat.le_refl _) (.cells #[.int .i64 (y.at' : Int), .int .u64 (y.base : Int), .int .u64 (y.recs.length : Int), .slice Ax y.recs.length cx] 81)).mono BL.out.size))
      have HB := Lib.hid (Blk.new wr 81 #[.int .i64 (y.at' : Int), .int .u64 (y.base : Int), .int .u64 (y.recs.length : Int), .slice Ax y.recs.length cx])
      have QW := Lib.hid ((Below.refl wr.heap.size wr).alloc (Nat.le_refl _) (.cells #[.int .i64 (y.at' : Int), .int .u64 (y.base : Int), .int .u64 (y.recs.length : Int), .slice Ax y.recs.length cx] 81))
      generalize hwa : wr.alloc _ = wa at *
      clear hwa x0 x1 x2 x3
      have t1 : wa.cell? ⟨wr.heap.size, 1, none⟩ = some (.int .u64 (y.base : Int)) := HB.out.cell 1
      have t2 : wa.cell? ⟨wr.heap.size, 2, none⟩ = some (.int .u64 (y.recs.length : Int)) := HB.out.cell 2
      by_cases hb1 : y.base ≤ m
      · have hb1' : ((y.base : Int)) ≤ (m : Int) := by omega
        by_cases hb2 : m ≤ sm
        · have hb2' : (m : Int) ≤ (sm : Int) := by omega
          have HFT : Hid (y.fits frm = true) := by rw [Hid, HFI.out, decide_eq_true hb1, decide_eq_true hb2]; rfl
          clear hb1 hb2
          rcases FA.out with ⟨hr, hpk⟩ | ⟨j, hj, hr, hpk⟩
          · have HR := Lib.hid hr
            have hrn : r < 0 := by omega
            have FN : Hid (FirstAt L (wPick frm ((L.map Prod.fst).take (i + 1)) none) (i : Int)) := by
              rw [Hid, HPK.out, wBest_yes HFT.out (by rw [hpk]; rfl)]
              exact .inr ⟨i, hlt, rfl, by rw [HY.out]⟩
            clear hr hpk
            refine wp_region_grow_lit (by kernel_rfl) (by kernel_rfl) ?_
            apply Exists.intro
            apply And.intro
            · repeat (first
                | (apply wpGrow_skip rfl
                   intro K hK
                   go_simp
                   refine hK _ ?_
                   clear hK K)
                | (apply wpGrow_is rfl
                   · intro wg hwg _
                     have c1 := cell_later hwg t1
                     have c2 := cell_later hwg t2
                     unfold grows
                     go_simp
                     first
                       | exact grows_value _ _
                   intro K hK
                   go_simp
                   refine hK _ ?_
                   clear hK K))
              refine wpGrow_end (fun wg hwg _ => ?_)
              have BW := Lib.hid (BA.out.trans (hwg.mono BA.out.size))
              clear t1 t2 hwr hwq
              go_wp2_with fail
              go_roundw
              case rel => exact ⟨i + 1, (i:Int), rfl, by go_num, by omega, FN, BW⟩
              case measure => simp [intOf]; omega
            · apply And.intro
              · repeat (first | exact trivial | (refine ⟨Stays.is _, ?_⟩) | (refine ⟨Stays.bs _, ?_⟩) | (refine ⟨Stays.pg _ _ _, ?_⟩))
              · rfl
          · subst hr
            have j1 := (BL.out.cell (p := ⟨b, o + j * 4 + 1, none⟩) hbl).trans (HC.out j hj).2.1
            obtain ⟨z, hz⟩ : ∃ z, L[j].1 = z := ⟨_, rfl⟩
            rw [hz] at j1 hpk
            have HZ := Lib.hid hz
            have HPZ := Lib.hid hpk
            have HJ := Lib.hid hj
            have j2 := cell_later QW.out j1
            clear hz hpk j1
            by_cases hzy : z.base < y.base
            · have FN : Hid (FirstAt L (wPick frm ((L.map Prod.fst).take (i + 1)) none) (i : Int)) := by
                rw [Hid, HPK.out, wBest_yes HFT.out (by rw [HPZ.out]; simp [betterB, hzy])]
                exact .inr ⟨i, hlt, rfl, by rw [HY.out]⟩
              refine wp_region_grow_lit (by kernel_rfl) (by kernel_rfl) ?_
              apply Exists.intro
              apply And.intro
              · repeat (first
                  | (apply wpGrow_skip rfl
                     intro K hK
                     go_simp
                     refine hK _ ?_
                     clear hK K)
                  | (apply wpGrow_is rfl
                     · intro wg hwg _
                       have c1 := cell_later hwg t1
                       have c2 := cell_later hwg t2
                       have c3 := cell_later hwg j2
                       unfold grows
                       go_simp
                       first
                         | exact grows_value _ _
                     intro K hK
                     go_simp
                     refine hK _ ?_
                     clear hK K))
                refine wpGrow_end (fun wg hwg _ => ?_)
                have BW := Lib.hid (BA.out.trans (hwg.mono BA.out.size))
                clear t1 t2 j2 hwr hwq
                go_wp2_with fail
                go_roundw
                case rel => exact ⟨i + 1, (i:Int), rfl, by go_num, by omega, FN, BW⟩
                case measure => simp [intOf]; omega
              · apply And.intro
                · repeat (first | exact trivial | (refine ⟨Stays.is _, ?_⟩) | (refine ⟨Stays.bs _, ?_⟩) | (refine ⟨Stays.pg _ _ _, ?_⟩))
                · rfl
            · have FN : Hid (FirstAt L (wPick frm ((L.map Prod.fst).take (i + 1)) none) (j : Int)) := by
                rw [Hid, HPK.out, wBest_less (by rw [HPZ.out]; simp [betterB]; omega)]
                exact .inr ⟨j, HJ.out, rfl, by rw [HZ.out]; exact HPZ.out⟩
              have hzy' : decide (z.base < y.base) = false := by simp; omega
              clear hzy
              refine wp_region_grow_lit (by kernel_rfl) (by kernel_rfl) ?_
              apply Exists.intro
              apply And.intro
              · repeat (first
                  | (apply wpGrow_skip rfl
                     intro K hK
                     go_simp
                     refine hK _ ?_
                     clear hK K)
                  | (apply wpGrow_is rfl
                     · intro wg hwg _
                       have c1 := cell_later hwg t1
                       have c2 := cell_later hwg t2
                       have c3 := cell_later hwg j2
                       unfold grows
                       go_simp
                       first
                         | exact grows_value _ _
                     intro K hK
                     go_simp
                     refine hK _ ?_
                     clear hK K))
                refine wpGrow_end (fun wg hwg _ => ?_)
                have BW := Lib.hid (BA.out.trans (hwg.mono BA.out.size))
                clear t1 t2 j2 hwr hwq
                go_wp2_with fail
                go_roundw
                case rel => exact ⟨i + 1, (j:Int), rfl, by go_num, by omega, FN, BW⟩
                case measure => simp [intOf]; omega
              · apply And.intro
                · repeat (first | exact trivial | (refine ⟨Stays.is _, ?_⟩) | (refine ⟨Stays.bs _, ?_⟩) | (refine ⟨Stays.pg _ _ _, ?_⟩))
                · rfl
        · have hb2' : decide (m ≤ sm) = false := by simp; omega
          have FN : Hid (FirstAt L (wPick frm ((L.map Prod.fst).take (i + 1)) none) r) := by
            rw [Hid, HPK.out, wBest_no (by rw [HFI.out, decide_eq_false hb2, Bool.and_false])]
            exact FA.out
          clear hb1 hb2
          refine wp_region_grow_lit (by kernel_rfl) (by kernel_rfl) ?_
          apply Exists.intro
          apply And.intro
          · repeat (first
              | (apply wpGrow_skip rfl
                 intro K hK
                 go_simp
                 refine hK _ ?_
                 clear hK K)
              | (apply wpGrow_is rfl
                 · intro wg hwg _
                   have c1 := cell_later hwg t1
                   have c2 := cell_later hwg t2
                   unfold grows
                   go_simp
                   first
                     | exact grows_value _ _
                 intro K hK
                 go_simp
                 refine hK _ ?_
                 clear hK K))
            refine wpGrow_end (fun wg hwg _ => ?_)
            have BW := Lib.hid (BA.out.trans (hwg.mono BA.out.size))
            clear t1 t2 hwr hwq
            go_wp2_with fail
            go_roundw
            case rel => exact ⟨i + 1, r, rfl, by go_num, by omega, FN, BW⟩
            case measure => simp [intOf]; omega
          · apply And.intro
            · repeat (first | exact trivial | (refine ⟨Stays.is _, ?_⟩) | (refine ⟨Stays.bs _, ?_⟩) | (refine ⟨Stays.pg _ _ _, ?_⟩))
            · rfl
      · have hb1' : decide (y.base ≤ m) = false := by simp; omega
        have FN : Hid (FirstAt L (wPick frm ((L.map Prod.fst).take (i + 1)) none) r) := by
          rw [Hid, HPK.out, wBest_no (by rw [HFI.out, decide_eq_false hb1, Bool.false_and])]
          exact FA.out
        clear hb1
        refine wp_region_grow_lit (by kernel_rfl) (by kernel_rfl) ?_
        apply Exists.intro
        apply And.intro
        · repeat (first
            | (apply wpGrow_skip rfl
               intro K hK
               go_simp
               refine hK _ ?_
               clear hK K)
            | (apply wpGrow_is rfl
               · intro wg hwg _
                 have c1 := cell_later hwg t1
                 have c2 := cell_later hwg t2
                 unfold grows
                 go_simp
                 first
                   | exact grows_value _ _
               intro K hK
               go_simp
               refine hK _ ?_
               clear hK K))
          refine wpGrow_end (fun wg hwg _ => ?_)
          have BW := Lib.hid (BA.out.trans (hwg.mono BA.out.size))
          clear t1 t2 hwr hwq
          go_wp2_with fail
          go_roundw
          case rel => exact ⟨i + 1, r, rfl, by go_num, by omega, FN, BW⟩
          case measure => simp [intOf]; omega
        · apply And.intro
          · repeat (first | exact trivial | (refine ⟨Stays.is _, ?_⟩) | (refine ⟨Stays.bs _, ?_⟩) | (refine ⟨Stays.pg _ _ _, ?_⟩))
          · rfl
    · obtain rfl : i = L.length := by omega
      have HFA : Hid (FirstAt L (wPick frm (L.map Prod.fst) none) r) := by
        have := FA.out
        rw [List.take_of_length_le (by simp)] at this
        exact this
      have HO : Hid (OpSt w wr wr h.g a n size (.slice none 0 0) [] frm (.slice none 0 0) []) :=
        ⟨HL2.out.later BL.out, HG2.out.later BL.out, World.ownsRow_nil _ _ _ _, SameK.refl _, World.ownsRow_nil _ _ _ _, Nat.le_refl _, Nat.le_trans HQ2.out.size BL.out.size, HQ2.out.trans (BL.out.mono HQ2.out.size)⟩
      have HFS9 := Lib.hid (HFS.out.later BL.out)
      have HLn := Lib.hid hLn
      clear FA BL HL2 HG2 HFS HQ2 HAV hLn
      go_wp2_with fail
      generalize wx.heap.size = bx at *
      obtain ⟨w9, hw9⟩ : ∃ w9, w9 = wr := ⟨_, rfl⟩
      subst hw9
      go_loopg [18, 19] (n + 1) (fun gf ov nv wq => ∃ (r : Int) (live : List Sg) (last : Nat) (out : List Rcd) (nx : Option Fd) (A : Option Addr) (m c : Nat) (Al : Option Addr) (kl cl : Nat), ov = .slice A m c ∧ nv = .int .i64 r ∧ Hid (FirstAt L nx r) ∧ Hid (ChSt (L.map Prod.fst) frm n live last out nx) ∧ Hid (OpSt w w9 wq h.g a n size (.slice Al kl cl) live last (.slice A m c) out) ∧ gf + live.length = n + 1)
      case atStart => exact ⟨r, [], frm, [], _, none, 0, 0, none, 0, 0, rfl, rfl, HFA, ChSt.start HF.out, HO, by simp⟩
      case round =>
        obtain ⟨r2, live, last, out, nx, A, mo, co, Al, kl, cl, rfl, rfl, NA, CH, OS, hgk⟩ := hrel
        clear HFA HO
        rcases NA.out with ⟨hr, hnx⟩ | ⟨j, hj, hr, hnx⟩
        · subst hr hnx
          have CE := Lib.hid CH.out.end
          have g0 : wr.cell? ⟨w.heap.size + 1, 0, none⟩ = some (.pointer (some ⟨w.heap.size, 0, none⟩)) := OS.out.gp.cell 0
          have l2 : wr.cell? ⟨w.heap.size, 2, none⟩ = some (.int .i64 (n : Int)) := OS.out.lb.cell 2
          have DK0 := Lib.hid (HD.out.later OS.out.below)
          have OE0 := Lib.hid OS.out.fin
          go_wp2_with fail
          clear g0 l2 OS NA CH
          go_loopw [118] (fun kv wq => ∃ (k : Nat) (h' : Zn), kv = .int .i64 (k : Int) ∧ k ≤ n ∧ Hid (Dk wq h' (wFreeAll D a size live k)) ∧ Hid (OpE h h' w wq a n size (.slice Al kl cl) live last 0 (.slice A mo co) out)) (fun kv _ => n - (intOf kv).toNat)
          case atStart => exact ⟨0, h, rfl, Nat.zero_le _, DK0, OE0⟩
          case round =>
            obtain ⟨k, h', rfl, hk, DK, OE⟩ := hrel
            clear DK0 OE0
            by_cases hlt : k < n
            · have g0 : wr.cell? ⟨w.heap.size + 1, 0, none⟩ = some (.pointer (some ⟨w.heap.size, 0, none⟩)) := OE.out.gp.cell 0
              have HRG : Hid (Rg3 wr (.slice Al kl cl) live) := KSl.of_own (by omega) OE.out.lown
              go_wp2_with fail
              refine (lgused_any w.heap.size h.g a n size k (.slice Al kl cl) (.slice none 0 0) last 0 live wr OE.out.lb HRG.out).mono ?_
              rintro e w4 ⟨rfl, hb4⟩
              have OE4 := Lib.hid (OE.out.later hb4)
              have DK4 := Lib.hid (DK.out.later hb4)
              have g4 : w4.cell? ⟨w.heap.size + 1, 0, none⟩ = some (.pointer (some ⟨w.heap.size, 0, none⟩)) := OE4.out.gp.cell 0
              clear hb4 OE DK HRG g0
              cases hu : usedL live k with
              | true =>
                have DK5 : Hid (Dk w4 h' (wFreeAll D a size live (k + 1))) := by rw [Hid, wFreeAll, if_pos hu]; exact DK4.out
                clear hu
                go_wp2_with fail
                go_roundw
                case rel => exact ⟨k + 1, h', by go_num, by omega, DK5, OE4⟩
                case measure => simp [intOf]; omega
              | false =>
                have HE : Hid (wFreeAll D a size live (k + 1) = wFree (wFreeAll D a size live k) (a + (k : Int) * size) size) := by rw [Hid, wFreeAll, if_neg (by rw [hu]; simp)]
                have HOK4 := Lib.hid (wFreeAll_ok HOK.out a size live k)
                have HPE : Hid ((wFreeAll D a size live k).pend.length ≤ 900000) := by
                  have h1 := wFreeAll_pend D a size live k
                  have h2 := HP.out
                  have h3 : k * size ≤ 64 * 64 := Nat.mul_le_mul (by omega) hs
                  rw [Hid]
                  omega
                have HLB : Hid (Lb w4 w.heap.size h'.g a n size (.slice Al kl cl) (.slice none 0 0) last 0) := by rw [OE4.out.st.g]; exact OE4.out.lb
                clear hu
                go_wp2_with fail
                refine (lgfree_any h' _ w.heap.size a n size k _ _ last 0 w4 DK4.out HOK4.out HLB.out hs (by omega) h0 (by omega) HPE.out).mono ?_
                rintro e w5 ⟨rfl, h5, hd5, hs5⟩
                have DK5 : Hid (Dk w5 h5 (wFreeAll D a size live (k + 1))) := by rw [Hid, HE.out]; exact hd5
                have OE5 := Lib.hid (OE4.out.step DK4.out hs5)
                clear hd5 hs5
                go_wp2_with fail
                go_roundw
                case rel => exact ⟨k + 1, h5, by go_num, by omega, DK5, OE5⟩
                case measure => simp [intOf]; omega
            · obtain rfl : n = k := by omega
              have OE2 : Hid (OpE h h' w wr.drew a n size (.slice Al kl cl) live last 0 (.slice A mo co) out) := OE.out.later (below_drewN (Below.refl _ _) 1)
              have DK2 := Lib.hid (DK.out.later (below_drewN (Below.refl wr.heap.size wr) 1))
              have g0 : wr.drew.cell? ⟨w.heap.size + 1, 0, none⟩ = some (.pointer (some ⟨w.heap.size, 0, none⟩)) := OE.out.gp.cell 0
              have l6 : wr.drew.cell? ⟨w.heap.size, 6, none⟩ = some (.int .u64 (last : Int)) := OE.out.lb.cell 6
              go_wp2_with fail
              go_still_tail 7, (by kernel_rfl)
              change wpList _ _ _ _ _ wr.drew
              have DK3 : Hid (Dk wr.drew h' (wFreeAll D a size live n)) := DK2.out
              clear OE DK DK2
              generalize wr.drew = w2 at *
              have f6 := OE2.out.lb.free 6
              have HOK4 := Lib.hid (wFreeAll_ok HOK.out a size live n)
              rcases Nat.lt_or_ge last frm with hmx | hmx
              · have hmx3 : max last frm = frm := Nat.max_eq_right (by omega)
                have HMX := Lib.hid hmx3
                clear hmx3
                have OE3 := Lib.hid (OE2.out.put (m := frm) DK3.out)
                go_wp2_with fail
                generalize w2.setCell _ _ = W3 at *
                clear g0 l6 f6 OE2 DK3
                have g0 : W3.cell? ⟨w.heap.size + 1, 0, none⟩ = some (.pointer (some ⟨w.heap.size, 0, none⟩)) := OE3.out.1.gp.cell 0
                have HLB : Hid (Lb W3 w.heap.size h'.g a n size (.slice Al kl cl) (.slice none 0 0) frm 0) := by rw [OE3.out.1.st.g]; exact OE3.out.1.lb
                go_wp2_with fail
                refine (lgsync_any h' _ w.heap.size a n size _ _ frm 0 W3 OE3.out.2 HOK4.out HLB.out).mono ?_
                rintro e w6 ⟨rfl, h6, hd6, hl6, hm6⟩
                rw [OE3.out.1.st.g] at hl6
                have OE6 := Lib.hid (OE3.out.1.sync OE3.out.2 hl6 hm6)
                have DK6 := Lib.hid hd6
                have g6 : w6.cell? ⟨w.heap.size + 1, 0, none⟩ = some (.pointer (some ⟨w.heap.size, 0, none⟩)) := OE6.out.gp.cell 0
                clear hd6 hl6 hm6 g0
                go_wp2_with fail
                go_ret3
                have hD := DK6.out
                have ce := CE.out
                rw [HALL.out] at ce
                refine ⟨w.heap.size, .slice Al kl cl, .slice none 0 0, A, mo, co, h6, rfl, ?_, ?_, ?_, rfl, Nat.le_refl _, ?_, OE6.out.st⟩
                · rw [ow_D ce]; exact hD
                · rw [ow_last ce, ow_synced ce, HMX.out]; exact OE6.out.lb
                · rw [ow_live ce]; exact KSl.of_own (by omega) OE6.out.lown
                · rw [ow_out ce]; exact OE6.out.oown
              · have hmx2 : ¬ last < frm := by omega
                have hmx3 : max last frm = last := Nat.max_eq_left (by omega)
                have HMX := Lib.hid hmx3
                clear hmx hmx3
                have OE3 := Lib.hid (OE2.out.put (m := last) DK3.out)
                go_wp2_with fail
                generalize w2.setCell _ _ = W3 at *
                clear g0 l6 f6 OE2 DK3
                have g0 : W3.cell? ⟨w.heap.size + 1, 0, none⟩ = some (.pointer (some ⟨w.heap.size, 0, none⟩)) := OE3.out.1.gp.cell 0
                have HLB : Hid (Lb W3 w.heap.size h'.g a n size (.slice Al kl cl) (.slice none 0 0) last 0) := by rw [OE3.out.1.st.g]; exact OE3.out.1.lb
                go_wp2_with fail
                refine (lgsync_any h' _ w.heap.size a n size _ _ last 0 W3 OE3.out.2 HOK4.out HLB.out).mono ?_
                rintro e w6 ⟨rfl, h6, hd6, hl6, hm6⟩
                rw [OE3.out.1.st.g] at hl6
                have OE6 := Lib.hid (OE3.out.1.sync OE3.out.2 hl6 hm6)
                have DK6 := Lib.hid hd6
                have g6 : w6.cell? ⟨w.heap.size + 1, 0, none⟩ = some (.pointer (some ⟨w.heap.size, 0, none⟩)) := OE6.out.gp.cell 0
                clear hd6 hl6 hm6 g0
                go_wp2_with fail
                go_ret3
                have hD := DK6.out
                have ce := CE.out
                rw [HALL.out] at ce
                refine ⟨w.heap.size, .slice Al kl cl, .slice none 0 0, A, mo, co, h6, rfl, ?_, ?_, ?_, rfl, Nat.le_refl _, ?_, OE6.out.st⟩
                · rw [ow_D ce]; exact hD
                · rw [ow_last ce, ow_synced ce, HMX.out]; exact OE6.out.lb
                · rw [ow_live ce]; exact KSl.of_own (by omega) OE6.out.lown
                · rw [ow_out ce]; exact OE6.out.oown
        · skip
          subst hr hnx
          have hll := CH.out.len
          have OS2 : Hid (OpSt w w9 wr.drew h.g a n size (.slice Al kl cl) live last (.slice A mo co) out) := OS.out.drew
          have FS2 : Hid (Fs wr.drew bx (.slice Av L.length cv) L) := HFS9.out.same OS2.out.same
          have hat := FS2.out.at
          obtain ⟨Av2, cv2, he2, -, -, hAV2⟩ := hat
          cases he2
          obtain ⟨b, o, hAe, hbl, hkb, hcell⟩ := hAV2 (by omega)
          cases hAe
          obtain ⟨q0, q1, q2, q3⟩ := hcell j hj
          have hmem := List.getElem_mem hj
          obtain ⟨Ay, cy, hrv, -⟩ := Rr.at (FS2.out.recs _ hmem).1
          have HRR := Lib.hid (FS2.out.recs _ hmem)
          rw [hrv] at q3
          have HRR2 : Hid (Rr wr.drew (.slice Ay L[j].1.recs.length cy) L[j].1.recs) := by have := HRR.out.1; rw [hrv] at this; exact this
          have HRL := Lib.hid HRR.out.2
          have g0 : wr.drew.cell? ⟨w.heap.size + 1, 0, none⟩ = some (.pointer (some ⟨w.heap.size, 0, none⟩)) := OS2.out.gp.cell 0
          have hxb : Hid (L[j].1.base < U64) := by
            have hm2 : L[j].1 ∈ L.map Prod.fst := List.mem_map.2 ⟨_, hmem, rfl⟩
            rw [HALL.out] at hm2
            exact wLook_lt (wAll_mem hm2).2
          clear hcell hmem hrv HRR hAV2
          generalize L[j].1 = y at *
          have HTK := Lib.hid (lgtake_any w.heap.size h.g a n size (.slice Al kl cl) (.slice none 0 0) last 0 live y (.slice Ay y.recs.length cy) frm w.heap.size wr.drew OS2.out.lb OS2.out.lown OS2.out.below.size (Nat.le_refl _) HRR2.out (by have := HRL.out; omega) hxb.out (by omega) HF.out)
          have HL1 : Hid (out.length + (tkRecs y frm).length ≤ 10000000) := by
            have h1 := CH.out.out
            have h2 := List.length_filter_le (fun r : Rcd => decide (frm < r.1)) y.recs
            have h3 := HRL.out
            have h4 : live.length * 40000 ≤ 64 * 40000 := Nat.mul_le_mul_right _ (by omega)
            rw [Hid]
            unfold tkRecs
            omega
          have HM1 : Hid (out.length + (tkRecs y frm).length ≤ maxLen) := by have := HL1.out; simp only [Hid, maxLen]; omega
          have HM2 : Hid ((out.length + (tkRecs y frm).length) * 24 ≤ 140737488355328) := by have := HL1.out; rw [Hid]; omega
          go_wp2_with fail
          go_cut [18] (fun ov wx => ∃ (A2 : Option Addr) (k2 c2 : Nat) (A3 : Option Addr) (k3 c3 : Nat), ov = .slice A2 k2 c2 ∧ Hid (OpSt w w9 wx h.g a n size (.slice A3 k3 c3) (live ++ [y.sg]) y.last (.slice A2 k2 c2) (out ++ tkRecs y frm)))
          case first =>
            go_region_law (first
              | (refine step_append_sl _ ⟨0, rfl⟩ rfl (.tmp 102) (.tmp 109) elemRec rfl (own_sameK OS2.out.oown hk3 (by decide)) (Sl.of_own (by omega) hot) rfl rfl (rcs_one _) HM1.out HM2.out (Nat.le_trans OS2.out.size hb3.size) ?_; intro A8 k8 c8 w8 hown8 hg8)
              | (go_simp; go_at_call 26; refine HTK.out.mono ?_; rintro e w3 ⟨At, kt, ct, A', k', c', rfl, hot, hl3, hlo, hb3, hk3⟩))
            all_goals
              have OS8 := OS2.out.next hl3 hlo hb3 hk3 hown8 hg8
              go_wp2_with fail
              go_meet
              exact ⟨A8, k8, c8, A', k', c', rfl, OS8⟩
          obtain ⟨A2, k2, c2, A3, k3, c3, rfl, OS3⟩ := hcut
          have hall : ∀ z ∈ L.map Prod.fst, z.at' < n ∧ z.recs.length ≤ 40000 := fun z hz => by
            refine ⟨?_, ?_⟩
            · rw [HALL.out] at hz
              exact (wAll_mem hz).1
            · obtain ⟨x, hx, rfl⟩ := List.mem_map.1 hz
              exact (HFS9.out.recs x hx).2
          have CH5 : Hid (ChSt (L.map Prod.fst) frm n (live ++ [y.sg]) y.last (out ++ tkRecs y frm) (wNext (L.map Prod.fst) (live ++ [y.sg]) y.last)) := CH.out.next hall
          have FS5 := Lib.hid (HFS9.out.same OS3.out.same)
          have HRG : Hid (Rg3 wc (.slice A3 k3 c3) (live ++ [y.sg])) := KSl.of_own (by omega) OS3.out.lown
          have hmf := run_makeFunc Tryz.prog
          clear hall OS HTK OS2 FS2 g0 q0 q1 q2 q3
          go_wp2_with fail
          refine (fdindex_any bx _ L (w.heap.size + 1) w.heap.size h.g a n size (.slice A3 k3 c3) (.slice none 0 0) y.last 0 (live ++ [y.sg]) wc OS3.out.gp OS3.out.lb HRG.out FS5.out).mono ?_
          rintro e w5 ⟨r5, rfl, hfd, hb5⟩
          have FD5 : Hid (FirstAt L (wNext (L.map Prod.fst) (live ++ [y.sg]) y.last) r5) := hfd
          have OS5 := Lib.hid (OS3.out.later hb5)
          clear hfd hb5 OS3 FS5 HRG
          go_wp2_with fail
          have hln := CH5.out.len
          rw [List.length_append, List.length_singleton] at hln
          go_roundg (gk - 1)
          case measure => omega
          case rel => exact ⟨r5, live ++ [y.sg], y.last, out ++ tkRecs y frm, _, A2, k2, c2, A3, k3, c3, rfl, rfl, FD5, CH5, OS5, by rw [List.length_append, List.length_singleton]; omega⟩
end Go.Proofs.YtojlldalhhibmaaGreatDoor

namespace Go.Proofs.YtojlldalhhibmaaGreatDoor
open Go Go.RowKit
set_option linter.unusedVariables false

theorem sgcs_one (l : List Sg) : ∀ y ∈ sgcs l, y.oneCell' = true := by
  intro y hy
  obtain ⟨s, _, hs⟩ := List.mem_flatMap.1 hy
  exact sgC_one s y hs
set_option maxHeartbeats 1000000 in
set_option maxRecDepth 100000 in
theorem sgclone_any (v0 : Value) (l : List Sg) (w : World) (hl : l.length ≤ 1000000) (hr : Rg3 w v0 l) :
    Calls Tryz.prog 38 #[v0] w fun e w' => ∃ A c, e = .returned (.slice A l.length c) ∧ w'.ownsRow w.heap.size 79 3 (.slice A l.length c) l.length (sgcs l) ∧ Below w.heap.size w w' := by
  have HR := Lib.hid hr
  obtain ⟨_, A, c, rfl, hlc, hcm, hA0, _⟩ := hr
  rcases A with _ | ad
  · obtain rfl : c = 0 := hA0 rfl
    have hl0 : l.length = 0 := by omega
    obtain rfl : l = [] := List.eq_nil_of_length_eq_zero hl0
    have hnil := Lib.run_eql_slice_nil (P := Tryz.prog)
    go_enter Tryz.func38, Tryz.ntmps38
    go_wp2_with fail
    go_ret
    exact ⟨none, 0, rfl, World.ownsRow_nil _ _ _ _, Below.refl _ _⟩
  · have hma : (w.alloc (.cells #[] 79)).ownsRow w.heap.size 79 3 (.slice (some ⟨w.heap.size, 0, none⟩) 0 0) 0 [] := World.ownsRow_made w #[] 0 (Nat.le_refl _) (by simp [maxLen]) (by simp)
    have HA := Lib.hid (KSl.later HR.out ((Below.refl _ _).alloc (Nat.le_refl _) (.cells #[] 79)))
    have hnil := Lib.run_eql_slice_nil (P := Tryz.prog)
    go_enter Tryz.func38, Tryz.ntmps38
    go_wp2_with (at_builtin; refine wpList_append_sl _ rfl (.tmp 5) (.tmp 6) elemSg rfl hma HA.out rfl rfl (sgcs_one _) (by simp only [maxLen]; omega) (by omega) (by simp) ?_; intro A1 k1 c1 w1 hown1 hg1 hat1)
    go_ret
    rw [Nat.zero_add, List.nil_append] at hown1
    obtain rfl := own_len hown1
    exact ⟨A1, c1, rfl, hown1, below_grown_own ((Below.refl _ _).alloc (Nat.le_refl _) _) hma hg1 (by simp)⟩
set_option maxHeartbeats 1000000 in
set_option maxRecDepth 100000 in
theorem bsclone_any (S : Nat → Prop) (v0 : Value) (l : List UInt8) (w : World) (hl : l.length ≤ 1099511627776) (hr : Bs S w v0 l) :
    Calls Tryz.prog 39 #[v0] w fun e w' => ∃ A c, e = .returned (.slice A l.length c) ∧ Ob 5 w' w.heap.size (.slice A l.length c) l ∧ Below w.heap.size w w' := by
  have HR := Lib.hid hr
  obtain ⟨A, c, rfl, hlc, hcm, hA0, _⟩ := hr.at
  rcases A with _ | ad
  · obtain rfl : c = 0 := hA0 rfl
    have hl0 : l.length = 0 := by omega
    obtain rfl : l = [] := List.eq_nil_of_length_eq_zero hl0
    have hnil := Lib.run_eql_slice_nil (P := Tryz.prog)
    go_enter Tryz.func39, Tryz.ntmps39
    go_wp2_with fail
    go_ret
    exact ⟨none, 0, rfl, Ob.nil _ _ _, Below.refl _ _⟩
  · have hma : Ob 5 (w.alloc (.cells #[] 5)) w.heap.size (.slice (some ⟨w.heap.size, 0, none⟩) 0 0) [] := Ob.made _ _ _ (Nat.le_refl _) rfl
    have HA := Lib.hid (Sl.alloc1 HR.out (.cells #[] 5))
    have hnil := Lib.run_eql_slice_nil (P := Tryz.prog)
    go_enter Tryz.func39, Tryz.ntmps39
    go_wp2_with (at_builtin; refine wpList_append_bs _ rfl (.tmp 5) (.tmp 6) elemU8 rfl hma HA.out rfl rfl (by simp; omega) (by simp) ?_; intro A1 k1 c1 w1 hown1 hg1 hat1)
    go_ret
    rw [List.nil_append] at hown1
    obtain rfl := hown1.len
    exact ⟨A1, c1, rfl, hown1, below_grown_own ((Below.refl _ _).alloc (Nat.le_refl _) _) hma hg1 (by simp)⟩
end Go.Proofs.YtojlldalhhibmaaGreatDoor
