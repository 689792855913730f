/- What the proof of MetaPlays needs, part 10. -/
import Derived.Test.YtpmndmgfoiagnaaDoorMetaPlaysJ9
import Derived.IntWalk
import Derived.Deep.Cut
import Derived.Deep.DeepCutAuto
import Derived.ReadAgain
import Derived.Below
import Derived.ChangeSame
import Derived.ChangeShapes
import Derived.Test.YtpmndmgfoiagnaaDoorRows
import Derived.ProofKit
import Derived.OpenShut
import Derived.ChangeMaps5
import Derived.Deep.DeepHandedRow
import Derived.Lib.LaidTab
import Derived.Lib.SmallJoins
import Derived.Deep.Slices
import Derived.Deep.Fields

namespace Go.Proofs.YtpmndmgfoiagnaaDoor
open Go Go.RowKit
set_option linter.unusedVariables false

set_option maxHeartbeats 20000000 in
set_option maxRecDepth 100000 in
theorem law_MetaPlays (size a : Int) (v : Value) (xs : List MAct) (w : World) (hb : BitsOk w) (hsi : InI size) (hai : InI a) (hv : Acts w v xs) :
    Calls Tryd.prog 5 #[.int .i64 size, .int .i64 a, v] w fun e w' => e = .returned (.bool true) ∧ Below w.heap.size w w' := by
  obtain ⟨A0, c0, rfl, hmx, hok, hA0⟩ := hv
  have HA := Lib.hid hA0
  have HB := Lib.hid hb
  have HX := Lib.hid hok
  have HAI := Lib.hid hai
  clear hb hA0 hok hai
  by_cases hsz : 1 ≤ size ∧ size ≤ 65536
  case neg =>
    have hbad : size < 1 ∨ 65536 < size := by omega
    clear hsz
    go_enter Tryd.func5, Tryd.ntmps5
    go_wp2_with fail
    refine (dnew_bad size w hbad).mono ?_
    rintro e w1 ⟨rfl, q1⟩
    go_wp2_with fail
    refine (rdnew_bad0 size w1 hbad).mono ?_
    rintro e w2 ⟨rfl, q2⟩
    have q3 := (q1.trans (q2.mono q1.size)).alloc (q1.trans (q2.mono q1.size)).size (.cells #[.int .i64 0, .int .i64 0, .slice none 0 0, .slice none 0 0, .slice none 0 0] 49)
    have HQ := Lib.hid q3
    clear q1 q2 q3
    go_wp2_with fail
    refine (awake12_any _ (HB.out.later HQ.out)).mono ?_
    rintro e w3 ⟨rfl, q4⟩
    have HQ2 := Lib.hid (HQ.out.trans (q4.mono HQ.out.size))
    clear q4
    go_wp2_with fail
    refine (awake12_any _ (HB.out.later HQ2.out)).mono ?_
    rintro e w4 ⟨rfl, q4⟩
    have HQ3 := Lib.hid (HQ2.out.trans (q4.mono HQ2.out.size))
    clear q4
    go_wp2_with fail
    go_ret
    exact ⟨rfl, HQ3.out⟩
  obtain ⟨hs1, hs2⟩ := hsz
  go_enter Tryd.func5, Tryd.ntmps5
  go_wp2_with fail
  refine (dnew_any size w hs1 hs2).mono ?_
  rintro e w1 ⟨h, rfl, hd, hnew, hbl⟩
  have D1 : Hid (Dp w w1 h (Dsk.new size)) := ⟨hd, hnew, hbl⟩
  clear hd hnew hbl
  go_wp2_with fail
  refine (rdnew_any size w1 hs1 hs2).mono ?_
  rintro e w2 ⟨nv, rfl, hr, q2⟩
  obtain ⟨A1, c1, A2, c2, A3, c3, rfl⟩ := hr.shape
  have D2 := Lib.hid ((D1.out.later q2).alloc (.cells #[.int .i64 (Dsk.new size).size, .int .i64 (Dsk.new size).limit, .slice A1 (Dsk.new size).nv c1, .slice A2 (Dsk.new size).ng c2, .slice A3 (Dsk.new size).pend.length c3] 49))
  have R2 := Lib.hid (hr.later ((Below.refl _ _).alloc (Nat.le_refl _) (.cells #[.int .i64 (Dsk.new size).size, .int .i64 (Dsk.new size).limit, .slice A1 (Dsk.new size).nv c1, .slice A2 (Dsk.new size).ng c2, .slice A3 (Dsk.new size).pend.length c3] 49)))
  have B2 := Lib.hid (Blk.new w2 49 #[.int .i64 (Dsk.new size).size, .int .i64 (Dsk.new size).limit, .slice A1 (Dsk.new size).nv c1, .slice A2 (Dsk.new size).ng c2, .slice A3 (Dsk.new size).pend.length c3])
  have HG : Hid (w.heap.size ≤ w2.heap.size) := Nat.le_trans D1.out.below.size q2.size
  clear hr q2 D1
  go_wp2_with fail
  refine (awake12_any _ (HB.out.later D2.out.below)).mono ?_
  rintro e w3 ⟨rfl, q⟩
  have D3 := Lib.hid (D2.out.later q)
  have R3 := Lib.hid (R2.out.later q)
  have B3 := Lib.hid (B2.out.later q)
  clear q D2 R2 B2
  have OK0 := Lib.hid (Dsk.Ok.new hs1 hs2)
  have PE0 : Hid ((Dsk.new size).pend.length = 0) := rfl
  generalize Dsk.new size = D0 at *
  generalize w2.heap.size = g9 at *
  clear hs1 hs2 w1 w2
  by_cases hap : 0 ≤ a ∧ a ≤ 65534
  case neg =>
    have hbad : a < 0 ∨ 65534 < a := by omega
    clear hap
    go_wp2_with fail
    refine (mopen_bad _ a w3 hbad).mono ?_
    rintro e w4 ⟨rfl, rfl⟩
    have d0 : (w3).cell? ⟨g9, 0, none⟩ = some (.int .i64 D0.size) := B3.out.cell 0
    have d1 : (w3).cell? ⟨g9, 1, none⟩ = some (.int .i64 D0.limit) := B3.out.cell 1
    have d2 : (w3).cell? ⟨g9, 2, none⟩ = some (.slice A1 D0.nv c1) := B3.out.cell 2
    have d3 : (w3).cell? ⟨g9, 3, none⟩ = some (.slice A2 D0.ng c2) := B3.out.cell 3
    have d4 : (w3).cell? ⟨g9, 4, none⟩ = some (.slice A3 D0.pend.length c3) := B3.out.cell 4
    have df0 : (w3).frozen? ⟨g9, 0, none⟩ = false := B3.out.free 0
    have df1 : (w3).frozen? ⟨g9, 1, none⟩ = false := B3.out.free 1
    have df2 : (w3).frozen? ⟨g9, 2, none⟩ = false := B3.out.free 2
    have df3 : (w3).frozen? ⟨g9, 3, none⟩ = false := B3.out.free 3
    have df4 : (w3).frozen? ⟨g9, 4, none⟩ = false := B3.out.free 4
    go_wp2_with fail
    refine (rmopen_bad _ D0 a w3 R3.out hbad).mono ?_
    rintro e w5 ⟨rfl, q5⟩
    have QQ := Lib.hid ((D3.out.later q5).alloc (.cells #[.int .i64 0, .int .i64 0, .int .u64 0] 53)).below
    clear q5
    go_wp2_with fail
    go_loopw [11, 17] (fun mv iv wr => mv = .pointer none ∧ iv = .int .i64 0 ∧ Below w.heap.size w wr) (fun _ _ _ => 0)
    case atStart => exact ⟨rfl, rfl, QQ.out⟩
    case round =>
      obtain ⟨rfl, rfl, q⟩ := hrel
      by_cases hl : 0 < xs.length
      · go_wp2_with fail
        go_ret
        exact ⟨rfl, q⟩
      · go_wp2_with fail
        go_ret
        exact ⟨rfl, q⟩
  obtain ⟨ha0, ha1⟩ := hap
  go_wp2_with fail
  have OKh := Lib.hid OK0.out
  refine (mopen_any h D0 a w3 D3.out.dk OK0.out ha0 ha1).mono ?_
  rintro e w4 ⟨gm, rfl, hm, hgm, q4⟩
  have M4 := Lib.hid hm
  have D4 := Lib.hid (D3.out.later q4)
  have R4 := Lib.hid (R3.out.later q4)
  have B4 := Lib.hid (B3.out.later q4)
  have GM : Hid (w.heap.size ≤ gm) := Nat.le_trans D3.out.below.size hgm
  clear hm hgm q4 D3 R3 B3
  have d0 : (w4).cell? ⟨g9, 0, none⟩ = some (.int .i64 D0.size) := B4.out.cell 0
  have d1 : (w4).cell? ⟨g9, 1, none⟩ = some (.int .i64 D0.limit) := B4.out.cell 1
  have d2 : (w4).cell? ⟨g9, 2, none⟩ = some (.slice A1 D0.nv c1) := B4.out.cell 2
  have d3 : (w4).cell? ⟨g9, 3, none⟩ = some (.slice A2 D0.ng c2) := B4.out.cell 3
  have d4 : (w4).cell? ⟨g9, 4, none⟩ = some (.slice A3 D0.pend.length c3) := B4.out.cell 4
  have df0 : (w4).frozen? ⟨g9, 0, none⟩ = false := B4.out.free 0
  have df1 : (w4).frozen? ⟨g9, 1, none⟩ = false := B4.out.free 1
  have df2 : (w4).frozen? ⟨g9, 2, none⟩ = false := B4.out.free 2
  have df3 : (w4).frozen? ⟨g9, 3, none⟩ = false := B4.out.free 3
  have df4 : (w4).frozen? ⟨g9, 4, none⟩ = false := B4.out.free 4
  go_wp2_with fail
  refine (rmopen_any _ D0 a w4 R4.out OK0.out ha0 ha1).mono ?_
  rintro e w5 ⟨rfl, q5⟩
  unfold rmV
  have MXP := Lib.hid (MxP.opened (i := 0) OK0.out (by have := PE0.out; omega) a)
  have HNE := Lib.hid (mtErr_ne (mtOpen D0.view a))
  have MX : Hid (Mx w (w5.alloc (.cells #[.int .i64 a, .int .i64 (rLast (mtOpen D0.view a)), .int .u64 ((mtOpen D0.view a).1 : Int)] 53)) h D0 gm a (mtOpen D0.view a).1 (mtOpen D0.view a).2.1 g9 #[.int .i64 D0.size, .int .i64 D0.limit, .slice A1 D0.nv c1, .slice A2 D0.ng c2, .slice A3 D0.pend.length c3] D0 w5.heap.size (rLast (mtOpen D0.view a)) (mtOpen D0.view a).1) := by
    have qa := (Below.refl w5.heap.size w5).alloc (Nat.le_refl _) (.cells #[.int .i64 a, .int .i64 (rLast (mtOpen D0.view a)), .int .u64 ((mtOpen D0.view a).1 : Int)] 53)
    exact ⟨(D4.out.later q5).later qa, (M4.out.later q5).later qa, GM.out, (B4.out.later q5).later qa, (R4.out.later q5).later qa, HG.out, Blk.new _ _ _, (D4.out.later q5).below.size⟩
  clear q5 d0 d1 d2 d3 d4 df0 df1 df2 df3 df4 D4 R4 B4 M4 GM
  generalize mtOpen D0.view a = x0 at *
  have hne : ((mtErr x0 : Int) == 122) = false := by
    have := HNE.out
    rcases this with h | h <;> rw [h] <;> rfl
  go_wp2_with fail
  clear hne HNE PE0 OK0 OKh
  generalize w5.alloc _ = W5 at *
  generalize w5.heap.size = g14 at *
  go_loopw [11, 17] (fun mv iv wr => ∃ (i gm num : Nat) (last rl : Int) (D : Dsk) (h' : Zn) (cs : Array Value), mv = .pointer (some ⟨gm, 0, none⟩) ∧ iv = .int .i64 (i : Int) ∧ i ≤ xs.length ∧ i ≤ 25 ∧ Hid (Mx w wr h' D gm a num last g9 cs D g14 rl num) ∧ Hid (MxP D num last rl i) ∧ Hid (h'.g = h.g)) (fun _ iv _ => xs.length - (intOf iv).toNat)
  case atStart => exact ⟨0, gm, x0.1, x0.2.1, rLast x0, D0, h, _, rfl, rfl, by omega, by omega, MX, MXP, rfl⟩
  case round =>
    obtain ⟨i, gm, num, last, rl, D, h', cs, rfl, rfl, hi, hi25, M, MP, G⟩ := hrel
    clear MX MXP
    obtain ⟨A1, c1, A2, c2, A3, c3, hcs⟩ := M.out.rd.shape
    injection hcs with hcs
    subst hcs
    have hsz := M.out.dp.below.size
    by_cases hil4 : i < 25
    case neg =>
      by_cases hil : i < xs.length
      · go_wp2_with fail
        go_ret
        exact ⟨rfl, M.out.dp.below⟩
      · go_wp2_with fail
        go_ret
        exact ⟨rfl, M.out.dp.below⟩
    by_cases hil : i < xs.length
    case neg =>
      go_wp2_with fail
      go_ret
      exact ⟨rfl, M.out.dp.below⟩
    obtain ⟨b, o, rfl, hbl, hcell⟩ := HA.out (by omega)
    obtain ⟨k0, k1, k2, k3⟩ := hcell i hil
    have old : ∀ p : Addr, p.block < w.heap.size → wr.cell? p = w.cell? p := fun p hp => M.out.dp.below.cell hp
    have x0 := (old ⟨b, o + i * 4, none⟩ hbl).trans k0
    have x1 := (old ⟨b, o + i * 4 + 1, none⟩ hbl).trans k1
    have x2 := (old ⟨b, o + i * 4 + 2, none⟩ hbl).trans k2
    have x3 := (old ⟨b, o + i * 4 + 3, none⟩ hbl).trans k3
    have HXI := Lib.hid (HX.out _ (List.getElem_mem hil))
    clear hcell k0 k1 k2 k3 old
    generalize xs[i] = x at *
    go_wp2_with fail
    refine (few12_any w.heap.size x wr (HXI.out.2.2.2.later M.out.dp.below) hsz).mono ?_
    rintro e w4 ⟨vl, rfl, hsv, hbl4⟩
    obtain ⟨Al, cl, rfl, -⟩ := hsv.at
    have M4 := Lib.hid (M.out.later hbl4)
    have SV := Lib.hid hsv
    have KI := Lib.hid HXI.out.2.1
    have LI : Hid (∀ y ∈ x.left.take 20, InI y.1 ∧ InI y.2) := fun y hy => HXI.out.2.2.1 y (List.mem_of_mem_take hy)
    have LL : Hid ((x.left.take 20).length ≤ 1000000) := by rw [Hid, List.length_take]; omega
    obtain ⟨kind, steps, body0, left0, v0⟩ := x
    simp only at SV KI LI LL x0 x1 x2 x3 ⊢
    have TL : Hid ((body0.take 600).length ≤ 1099511627776) := by rw [Hid, List.length_take]; omega
    generalize body0.take 600 = t at *
    generalize left0.take 20 = l at *
    clear hsv hbl4 HXI x0 x1 x2 x3
    have M5 := Lib.hid (M4.out.alloc (.cells #[.int .i64 kind, .int .i64 steps, .string (st t), .slice Al l.length cl] 33))
    have BX := Lib.hid (Blk.new w4 33 #[.int .i64 kind, .int .i64 steps, .string (st t), .slice Al l.length cl])
    have SV5 := Lib.hid (Sv.again SV.out M4.out.dp.below M5.out.dp.below)
    go_upto_if 112 with fail
    generalize hW5 : w4.alloc _ = w5 at *
    clear hW5
    generalize w4.heap.size = gx at *
    clear M4 SV
    have x0 : (w5).cell? ⟨gx, 0, none⟩ = some (.int .i64 kind) := BX.out.cell 0
    have x1 : (w5).cell? ⟨gx, 1, none⟩ = some (.int .i64 steps) := BX.out.cell 1
    have x2 : (w5).cell? ⟨gx, 2, none⟩ = some (.string (st t)) := BX.out.cell 2
    have x3 : (w5).cell? ⟨gx, 3, none⟩ = some (.slice Al l.length cl) := BX.out.cell 3
    have xf0 : (w5).frozen? ⟨gx, 0, none⟩ = false := BX.out.free 0
    have xf1 : (w5).frozen? ⟨gx, 1, none⟩ = false := BX.out.free 1
    have xf2 : (w5).frozen? ⟨gx, 2, none⟩ = false := BX.out.free 2
    have xf3 : (w5).frozen? ⟨gx, 3, none⟩ = false := BX.out.free 3
    have d0 : (w5).cell? ⟨g9, 0, none⟩ = some (.int .i64 D.size) := M5.out.n.cell 0
    have d1 : (w5).cell? ⟨g9, 1, none⟩ = some (.int .i64 D.limit) := M5.out.n.cell 1
    have d2 : (w5).cell? ⟨g9, 2, none⟩ = some (.slice A1 D.nv c1) := M5.out.n.cell 2
    have d3 : (w5).cell? ⟨g9, 3, none⟩ = some (.slice A2 D.ng c2) := M5.out.n.cell 3
    have d4 : (w5).cell? ⟨g9, 4, none⟩ = some (.slice A3 D.pend.length c3) := M5.out.n.cell 4
    have df0 : (w5).frozen? ⟨g9, 0, none⟩ = false := M5.out.n.free 0
    have df1 : (w5).frozen? ⟨g9, 1, none⟩ = false := M5.out.n.free 1
    have df2 : (w5).frozen? ⟨g9, 2, none⟩ = false := M5.out.n.free 2
    have df3 : (w5).frozen? ⟨g9, 3, none⟩ = false := M5.out.n.free 3
    have df4 : (w5).frozen? ⟨g9, 4, none⟩ = false := M5.out.n.free 4
    have k0 : (w5).cell? ⟨g14, 0, none⟩ = some (.int .i64 a) := M5.out.k.cell 0
    have k1 : (w5).cell? ⟨g14, 1, none⟩ = some (.int .i64 rl) := M5.out.k.cell 1
    have k2 : (w5).cell? ⟨g14, 2, none⟩ = some (.int .u64 (num : Int)) := M5.out.k.cell 2
    have kf0 : (w5).frozen? ⟨g14, 0, none⟩ = false := M5.out.k.free 0
    have kf1 : (w5).frozen? ⟨g14, 1, none⟩ = false := M5.out.k.free 1
    have kf2 : (w5).frozen? ⟨g14, 2, none⟩ = false := M5.out.k.free 2
    by_cases hk3 : kind = 3
    · subst hk3
      go_wp2_with fail
      rw [← G.out]
      refine (dlimit_any h' D steps w5 M5.out.dp.dk).mono ?_
      rintro e w6 ⟨rfl, hd, hs⟩
      have M6 := Lib.hid (M5.out.stp hs hd)
      have BX6 := Lib.hid (hs.blk M5.out.dp.dk BX.out (by decide) (by decide))
      clear hd hs x0 x1 x2 x3 xf0 xf1 xf2 xf3 d0 d1 d2 d3 d4 df0 df1 df2 df3 df4 k0 k1 k2 kf0 kf1 kf2
      have y1 : w6.cell? ⟨gx, 1, none⟩ = some (.int .i64 steps) := BX6.out.cell 1
      have d1 : w6.cell? ⟨g9, 1, none⟩ = some (.int .i64 D.limit) := M6.out.n.cell 1
      have df1 := M6.out.n.free 1
      rw [G.out]
      go_wp2_with fail
      have M7 := Lib.hid (M6.out.limited steps)
      have MP7 : Hid (MxP { D with limit := steps } num last rl (i + 1)) := ⟨MP.out.ok.limited steps, by have := MP.out.pend; simp only; omega, MP.out.num, MP.out.l0, MP.out.l1, MP.out.rl⟩
      go_roundw
      case rel => exact ⟨i + 1, gm, num, last, rl, _, h', _, rfl, by go_num, by omega, by omega, M7, MP7, G⟩
      case measure => simp [intOf]; omega
    go_wp2_with fail
    refine (rsteps_any _ D a num last rl t steps w5 M5.out.rd MP.out.ok (by have := MP.out.pend; omega) ha0 ha1 MP.out.l0 MP.out.l1 MP.out.rl MP.out.num).mono ?_
    rintro e w6 ⟨sv, rfl, hr6, q6⟩
    obtain ⟨B1, e1, B2, e2, B3, e3, rfl⟩ := hr6.shape
    have MPS := Lib.hid (MP.out.steps a t steps)
    clear x0 x1 x2 x3 xf0 xf1 xf2 xf3 d0 d1 d2 d3 d4 df0 df1 df2 df3 df4 k0 k1 k2 kf0 kf1 kf2
    have HS := Lib.hid (rfl : mtSteps D a num last t steps = mtSteps D a num last t steps)
    obtain ⟨S, hS⟩ : ∃ S, mtSteps D a num last t steps = S := ⟨_, rfl⟩
    rw [hS] at hr6 MPS ⊢
    have HSS := Lib.hid hS
    clear hS HS
    have qa : Below w6.heap.size w6 ((w6.alloc (.cells #[.int .i64 S.D.size, .int .i64 S.D.limit, .slice B1 S.D.nv e1, .slice B2 S.D.ng e2, .slice B3 S.D.pend.length e3] 49)).alloc (.cells #[.int .i64 a, .int .i64 (if S.done then S.last else rl), .int .u64 (S.num : Int)] 53)) :=
      ((Below.refl _ _).alloc (Nat.le_refl _) _).alloc (by simp) _
    have M6 := Lib.hid ((M5.out.later q6).later qa)
    have BX6 := Lib.hid ((BX.out.later q6).later qa)
    have R6 := Lib.hid (hr6.later qa)
    have SV6 := Lib.hid (Sv.again SV5.out M5.out.dp.below M6.out.dp.below)
    have N6 := Lib.hid ((Blk.new w6 49 #[.int .i64 S.D.size, .int .i64 S.D.limit, .slice B1 S.D.nv e1, .slice B2 S.D.ng e2, .slice B3 S.D.pend.length e3]).alloc (.cells #[.int .i64 a, .int .i64 (if S.done then S.last else rl), .int .u64 (S.num : Int)] 53))
    have K6 := Lib.hid (rm_new1 w6 (.cells #[.int .i64 S.D.size, .int .i64 S.D.limit, .slice B1 S.D.nv e1, .slice B2 S.D.ng e2, .slice B3 S.D.pend.length e3] 49) 53 #[.int .i64 a, .int .i64 (if S.done then S.last else rl), .int .u64 (S.num : Int)])
    have L9 : Hid (g9 < w6.heap.size) := (M5.out.later q6).n.lt
    have L14 : Hid (g14 < w6.heap.size) := (M5.out.later q6).k.lt
    clear q6 qa hr6 M5 BX SV5
    obtain ⟨rl2, hrl2⟩ : ∃ rl2, (if S.done then S.last else rl) = rl2 := ⟨_, rfl⟩
    rw [hrl2] at M6 BX6 R6 SV6 N6 K6 MPS ⊢
    clear hrl2
    go_wp2_with fail
    generalize hW6 : (w6.alloc _).alloc _ = W6 at *
    clear hW6
    have p0 : (W6).cell? ⟨w6.heap.size, 0, none⟩ = some (.int .i64 S.D.size) := N6.out.cell 0
    have p1 : (W6).cell? ⟨w6.heap.size, 1, none⟩ = some (.int .i64 S.D.limit) := N6.out.cell 1
    have p2 : (W6).cell? ⟨w6.heap.size, 2, none⟩ = some (.slice B1 S.D.nv e1) := N6.out.cell 2
    have p3 : (W6).cell? ⟨w6.heap.size, 3, none⟩ = some (.slice B2 S.D.ng e2) := N6.out.cell 3
    have p4 : (W6).cell? ⟨w6.heap.size, 4, none⟩ = some (.slice B3 S.D.pend.length e3) := N6.out.cell 4
    have pf0 : (W6).frozen? ⟨w6.heap.size, 0, none⟩ = false := N6.out.free 0
    have pf1 : (W6).frozen? ⟨w6.heap.size, 1, none⟩ = false := N6.out.free 1
    have pf2 : (W6).frozen? ⟨w6.heap.size, 2, none⟩ = false := N6.out.free 2
    have pf3 : (W6).frozen? ⟨w6.heap.size, 3, none⟩ = false := N6.out.free 3
    have pf4 : (W6).frozen? ⟨w6.heap.size, 4, none⟩ = false := N6.out.free 4
    have q0 : (W6).cell? ⟨w6.heap.size + 1, 0, none⟩ = some (.int .i64 a) := K6.out.cell 0
    have q1 : (W6).cell? ⟨w6.heap.size + 1, 1, none⟩ = some (.int .i64 rl2) := K6.out.cell 1
    have q2 : (W6).cell? ⟨w6.heap.size + 1, 2, none⟩ = some (.int .u64 (S.num : Int)) := K6.out.cell 2
    have qf0 : (W6).frozen? ⟨w6.heap.size + 1, 0, none⟩ = false := K6.out.free 0
    have qf1 : (W6).frozen? ⟨w6.heap.size + 1, 1, none⟩ = false := K6.out.free 1
    have qf2 : (W6).frozen? ⟨w6.heap.size + 1, 2, none⟩ = false := K6.out.free 2
    clear pf0 pf1 pf2 pf3 pf4 qf0 qf1 qf2
    have z9 : g9 ≠ g14 := M6.out.ne
    have f0 := Lib.hid (ptE2_not (i := 2) (g := g9) (n := 5) (t := 49) (i' := 3) (g' := g14) (n' := 3) (t' := 53) (b := w6.heap.size) (by have := L9.out; omega) (by have := L14.out; omega))
    have f1 := Lib.hid (ptE2_not (i := 2) (g := g9) (n := 5) (t := 49) (i' := 3) (g' := g14) (n' := 3) (t' := 53) (b := w6.heap.size + 1) (by have := L9.out; omega) (by have := L14.out; omega))
    refine wp_region_put [⟨2, g9, 49, 0, 5⟩, ⟨3, g14, 53, 0, 3⟩] (by kernel_rfl) (by kernel_rfl) ?_
    apply Exists.intro
    apply And.intro
    · repeat (first
        | (apply wpReg_skip rfl
           intro K hK
           go_simp
           refine hK _ ?_
           clear hK K)
        | (apply wpReg_is rfl rfl
           · intro wg hwg _
             replace hwg := hwg.mono ptX_E
             have r0 := hwg.cell p0 (f0.out _)
             have r1 := hwg.cell p1 (f0.out _)
             have r2 := hwg.cell p2 (f0.out _)
             have r3 := hwg.cell p3 (f0.out _)
             have r4 := hwg.cell p4 (f0.out _)
             have s0 := hwg.cell q0 (f1.out _)
             have s1 := hwg.cell q1 (f1.out _)
             have s2 := hwg.cell q2 (f1.out _)
             unfold grows
             go_simp
             first
               | exact grows_value _ _
           intro K hK
           go_simp
           refine hK _ ?_
           clear hK K))
      apply wpReg_store (Is (.agg #[.int .i64 S.D.size, .int .i64 S.D.limit, .slice B1 S.D.nv e1, .slice B2 S.D.ng e2, .slice B3 S.D.pend.length e3])) (#[.int .i64 S.D.size, .int .i64 S.D.limit, .slice B1 S.D.nv e1, .slice B2 S.D.ng e2, .slice B3 S.D.pend.length e3])
      · rfl
      · rfl
      rotate_left 4
      · exact M6.out.n
      rotate_right 4
      · kernel_rfl
      · kernel_rfl
      · kernel_rfl
      · kernel_rfl
      · kernel_rfl
      · kernel_rfl
      · exact fun wg hwg hf => rfl
      · exact fun p hp => Is.pstays _ p
      intro K hK
      go_simp
      refine hK _ ?_
      clear hK K
      apply wpReg_store (Is (.agg #[.int .i64 a, .int .i64 rl2, .int .u64 (S.num : Int)])) (#[.int .i64 a, .int .i64 rl2, .int .u64 (S.num : Int)])
      · rfl
      · rfl
      rotate_left 4
      · exact M6.out.k
      rotate_right 4
      · kernel_rfl
      · kernel_rfl
      · kernel_rfl
      · kernel_rfl
      · kernel_rfl
      · kernel_rfl
      · exact fun wg hwg hf => rfl
      · exact fun p hp => Is.pstays _ p
      intro K hK
      go_simp
      refine hK _ ?_
      clear hK K
      refine wpReg_end (fun wf hE hf => ?_)
      have b2 := hf 2 _ _ rfl
      have b3 := hf 3 _ _ rfl
      clear hf
      obtain ⟨-, cs2, b2, e2⟩ := b2
      cases e2
      obtain ⟨-, cs3, b3, e3⟩ := b3
      cases e3
      have M7 := Lib.hid (M6.out.both hE R6.out b2 b3)
      have BX7 := Lib.hid (hE.at BX6.out (fun k => ptE2_not (fun e => by have := BX6.out.ne M6.out.n (by decide); exact this e) (fun e => by have := BX6.out.ne M6.out.k (by decide); exact this e) k))
      have SV7 := Lib.hid (Sv.again SV6.out M6.out.dp.below M7.out.dp.below)
      clear hE b2 b3 M6 BX6 SV6 N6 K6 R6 p0 p1 p2 p3 p4 q0 q1 q2 f0 f1
      have x0 : (wf).cell? ⟨gx, 0, none⟩ = some (.int .i64 kind) := BX7.out.cell 0
      have x1 : (wf).cell? ⟨gx, 1, none⟩ = some (.int .i64 steps) := BX7.out.cell 1
      have x2 : (wf).cell? ⟨gx, 2, none⟩ = some (.string (st t)) := BX7.out.cell 2
      have x3 : (wf).cell? ⟨gx, 3, none⟩ = some (.slice Al l.length cl) := BX7.out.cell 3
      have xf0 : (wf).frozen? ⟨gx, 0, none⟩ = false := BX7.out.free 0
      have xf1 : (wf).frozen? ⟨gx, 1, none⟩ = false := BX7.out.free 1
      have xf2 : (wf).frozen? ⟨gx, 2, none⟩ = false := BX7.out.free 2
      have xf3 : (wf).frozen? ⟨gx, 3, none⟩ = false := BX7.out.free 3
      go_wp2_with fail
      refine (msteps_any h' D gm a num last t steps wf M7.out.dp.dk MP.out.ok (by have := MP.out.pend; omega) M7.out.page ha0 ha1 MP.out.l0 MP.out.l1 MP.out.num (HB.out.later M7.out.dp.below) KI.out).mono ?_
      rintro e w8 ⟨he, h8, hd8, hm8, ht8⟩
      rw [HSS.out] at he hd8 hm8
      subst he
      have M8 := Lib.hid (M7.out.mtp ht8 hd8 hm8)
      have BX8 := Lib.hid (ht8.else M7.out.dp.dk M7.out.page BX7.out (by decide) (by decide) (by decide))
      have SV8 := Lib.hid (Sv.again SV7.out M7.out.dp.below M8.out.dp.below)
      have G8 := Lib.hid (ht8.g.trans G.out)
      clear hd8 hm8 ht8 M7 BX7 SV7 x0 x1 x2 x3 xf0 xf1 xf2 xf3 HSS M MP G
      have x0 : (w8).cell? ⟨gx, 0, none⟩ = some (.int .i64 kind) := BX8.out.cell 0
      have x1 : (w8).cell? ⟨gx, 1, none⟩ = some (.int .i64 steps) := BX8.out.cell 1
      have x2 : (w8).cell? ⟨gx, 2, none⟩ = some (.string (st t)) := BX8.out.cell 2
      have x3 : (w8).cell? ⟨gx, 3, none⟩ = some (.slice Al l.length cl) := BX8.out.cell 3
      have xf0 : (w8).frozen? ⟨gx, 0, none⟩ = false := BX8.out.free 0
      have xf1 : (w8).frozen? ⟨gx, 1, none⟩ = false := BX8.out.free 1
      have xf2 : (w8).frozen? ⟨gx, 2, none⟩ = false := BX8.out.free 2
      have xf3 : (w8).frozen? ⟨gx, 3, none⟩ = false := BX8.out.free 3
      by_cases hk1 : kind = 1
      · subst hk1
        go_wp2_with fail
        rw [← G8.out]
        refine (dcrash_any h8 S.D _ _ l w8 M8.out.dp.dk MPS.out.ok SV8.out LI.out LL.out (by have := MPS.out.pend; omega)).mono ?_
        rintro e w9 ⟨rfl, h9, hd, hs⟩
        rw [G8.out]
        obtain ⟨D9, hD9⟩ : ∃ D9, S.D.crash l = D9 := ⟨_, rfl⟩
        have HD9 := Lib.hid hD9
        rw [hD9] at hd
        have M9 := Lib.hid (M8.out.stp hs hd)
        have BX9 := Lib.hid (hs.blk M8.out.dp.dk BX8.out (by decide) (by decide))
        have SV9 := Lib.hid (Sv.again SV8.out M8.out.dp.below M9.out.dp.below)
        have G9 := Lib.hid (hs.g.trans G8.out)
        clear hd hs M8 BX8 SV8 G8 x0 x1 x2 x3 xf0 xf1 xf2 xf3
        have y3 : w9.cell? ⟨gx, 3, none⟩ = some (.slice Al l.length cl) := BX9.out.cell 3
        have d0 : (w9).cell? ⟨g9, 0, none⟩ = some (.int .i64 S.D.size) := M9.out.n.cell 0
        have d1 : (w9).cell? ⟨g9, 1, none⟩ = some (.int .i64 S.D.limit) := M9.out.n.cell 1
        have d2 : (w9).cell? ⟨g9, 2, none⟩ = some (.slice B1 S.D.nv e1) := M9.out.n.cell 2
        have d3 : (w9).cell? ⟨g9, 3, none⟩ = some (.slice B2 S.D.ng e2) := M9.out.n.cell 3
        have d4 : (w9).cell? ⟨g9, 4, none⟩ = some (.slice B3 S.D.pend.length e3) := M9.out.n.cell 4
        have df0 : (w9).frozen? ⟨g9, 0, none⟩ = false := M9.out.n.free 0
        have df1 : (w9).frozen? ⟨g9, 1, none⟩ = false := M9.out.n.free 1
        have df2 : (w9).frozen? ⟨g9, 2, none⟩ = false := M9.out.n.free 2
        have df3 : (w9).frozen? ⟨g9, 3, none⟩ = false := M9.out.n.free 3
        have df4 : (w9).frozen? ⟨g9, 4, none⟩ = false := M9.out.n.free 4
        go_wp2_with fail
        refine (rdcrash_any _ _ _ S.D l w9 M9.out.rd MPS.out.ok (by have := MPS.out.pend; omega) SV9.out LL.out LI.out).mono ?_
        rintro e wc ⟨cv, rfl, hrc, qc⟩
        rw [hD9] at hrc
        obtain ⟨C1, f1, C2, f2, C3, f3, rfl⟩ := hrc.shape
        have MC := Lib.hid (M9.out.later qc)
        have RC := Lib.hid hrc
        have MPC : Hid (MxP D9 S.num S.last rl2 (i + 1)) := by
          rw [Hid, ← hD9]
          exact ⟨MPS.out.ok.crash l, by show 0 ≤ _; omega, MPS.out.num, MPS.out.l0, MPS.out.l1, MPS.out.rl⟩
        clear hD9 HD9
        clear hrc qc M9 BX9 SV9 y3 d0 d1 d2 d3 d4 df0 df1 df2 df3 df4
        have d0 : (wc).cell? ⟨g9, 0, none⟩ = some (.int .i64 S.D.size) := MC.out.n.cell 0
        have d1 : (wc).cell? ⟨g9, 1, none⟩ = some (.int .i64 S.D.limit) := MC.out.n.cell 1
        have d2 : (wc).cell? ⟨g9, 2, none⟩ = some (.slice B1 S.D.nv e1) := MC.out.n.cell 2
        have d3 : (wc).cell? ⟨g9, 3, none⟩ = some (.slice B2 S.D.ng e2) := MC.out.n.cell 3
        have d4 : (wc).cell? ⟨g9, 4, none⟩ = some (.slice B3 S.D.pend.length e3) := MC.out.n.cell 4
        have df0 : (wc).frozen? ⟨g9, 0, none⟩ = false := MC.out.n.free 0
        have df1 : (wc).frozen? ⟨g9, 1, none⟩ = false := MC.out.n.free 1
        have df2 : (wc).frozen? ⟨g9, 2, none⟩ = false := MC.out.n.free 2
        have df3 : (wc).frozen? ⟨g9, 3, none⟩ = false := MC.out.n.free 3
        have df4 : (wc).frozen? ⟨g9, 4, none⟩ = false := MC.out.n.free 4
        go_upto_region 25 with fail
        have MN := Lib.hid (MC.out.putN RC.out)
        generalize hwn : World.setCell (World.setCell (World.setCell (World.setCell (World.setCell wc _ _) _ _) _ _) _ _) _ _ = wn at *
        clear hwn d0 d1 d2 d3 d4 df0 df1 df2 df3 df4 MC RC
        have d0 : (wn).cell? ⟨g9, 0, none⟩ = some (.int .i64 D9.size) := MN.out.n.cell 0
        have d1 : (wn).cell? ⟨g9, 1, none⟩ = some (.int .i64 D9.limit) := MN.out.n.cell 1
        have d2 : (wn).cell? ⟨g9, 2, none⟩ = some (.slice C1 D9.nv f1) := MN.out.n.cell 2
        have d3 : (wn).cell? ⟨g9, 3, none⟩ = some (.slice C2 D9.ng f2) := MN.out.n.cell 3
        have d4 : (wn).cell? ⟨g9, 4, none⟩ = some (.slice C3 D9.pend.length f3) := MN.out.n.cell 4
        have df0 : (wn).frozen? ⟨g9, 0, none⟩ = false := MN.out.n.free 0
        have df1 : (wn).frozen? ⟨g9, 1, none⟩ = false := MN.out.n.free 1
        have df2 : (wn).frozen? ⟨g9, 2, none⟩ = false := MN.out.n.free 2
        have df3 : (wn).frozen? ⟨g9, 3, none⟩ = false := MN.out.n.free 3
        have df4 : (wn).frozen? ⟨g9, 4, none⟩ = false := MN.out.n.free 4
        go_wp2_with fail
        refine (rmopen_any _ D9 a wn MN.out.rd MPC.out.ok ha0 ha1).mono ?_
        rintro e wa ⟨rfl, qa⟩
        unfold rmV
        have qb := (Below.refl wa.heap.size wa).alloc (Nat.le_refl _) (.cells #[.int .i64 a, .int .i64 (rLast (mtOpen D9.view a)), .int .u64 ((mtOpen D9.view a).1 : Int)] 53)
        have MA := Lib.hid ((MN.out.later qa).later qb)
        have UA := Lib.hid (Blk.new wa 53 #[.int .i64 a, .int .i64 (rLast (mtOpen D9.view a)), .int .u64 ((mtOpen D9.view a).1 : Int)])
        have MPA := Lib.hid (MxP.opened (i := i + 1) MPC.out.ok MPC.out.pend a)
        clear qa qb d0 d1 d2 d3 d4 df0 df1 df2 df3 df4
        go_wp2_with fail
        generalize wa.alloc _ = WA at *
        generalize wa.heap.size = gu at *
        rw [← G9.out]
        refine (mopen_any h9 D9 a WA MA.out.dp.dk MPC.out.ok ha0 ha1).mono ?_
        rintro e wo ⟨gm2, rfl, hm, hgm, qo⟩
        rw [G9.out]
        have MO := Lib.hid ((MA.out.later qo).paged hm (Nat.le_trans MA.out.dp.below.size hgm))
        have UO := Lib.hid (UA.out.later qo)
        clear hm hgm qo MA UA
        generalize mtOpen D9.view a = y at *
        have u0 : (wo).cell? ⟨gu, 0, none⟩ = some (.int .i64 a) := UO.out.cell 0
        have u1 : (wo).cell? ⟨gu, 1, none⟩ = some (.int .i64 (rLast y)) := UO.out.cell 1
        have u2 : (wo).cell? ⟨gu, 2, none⟩ = some (.int .u64 (y.1 : Int)) := UO.out.cell 2
        have uf0 : (wo).frozen? ⟨gu, 0, none⟩ = false := UO.out.free 0
        have uf1 : (wo).frozen? ⟨gu, 1, none⟩ = false := UO.out.free 1
        have uf2 : (wo).frozen? ⟨gu, 2, none⟩ = false := UO.out.free 2
        have k0 : (wo).cell? ⟨g14, 0, none⟩ = some (.int .i64 a) := MO.out.k.cell 0
        have k1 : (wo).cell? ⟨g14, 1, none⟩ = some (.int .i64 rl2) := MO.out.k.cell 1
        have k2 : (wo).cell? ⟨g14, 2, none⟩ = some (.int .u64 (S.num : Int)) := MO.out.k.cell 2
        have kf0 : (wo).frozen? ⟨g14, 0, none⟩ = false := MO.out.k.free 0
        have kf1 : (wo).frozen? ⟨g14, 1, none⟩ = false := MO.out.k.free 1
        have kf2 : (wo).frozen? ⟨g14, 2, none⟩ = false := MO.out.k.free 2
        go_upto_region 30 with fail
        have MQ := Lib.hid (MO.out.putK (rLast y) y.1)
        generalize hwq : World.setCell (World.setCell (World.setCell wo _ _) _ _) _ _ = wq at *
        clear hwq MO UO u0 u1 u2 uf0 uf1 uf2 k0 k1 k2 kf0 kf1 kf2
        obtain ⟨n1, hn1⟩ : ∃ n1, y.1 = n1 := ⟨_, rfl⟩
        obtain ⟨l1, hl1⟩ : ∃ l1, y.2.1 = l1 := ⟨_, rfl⟩
        obtain ⟨r1, hr1⟩ : ∃ r1, rLast y = r1 := ⟨_, rfl⟩
        rw [hn1, hl1, hr1] at MQ MPA
        clear hn1 hl1 hr1
        have HN : Hid (∀ wg, Below wq.heap.size wq wg → Calls Tryd.prog 13 #[.pointer (some ⟨gm2, 0, none⟩)] wg fun e w' => e = .returned (.int .u64 (n1 : Int)) ∧ wg = w') := fun wg q => mnumber_any h9 gm2 a n1 l1 wg (MQ.out.page.later q)
        have HU : Hid (∀ wg, Below wq.heap.size wq wg → Calls Tryd.prog 14 #[.pointer (some ⟨h.g, 0, none⟩)] wg fun e w' => e = .returned (.int .i64 (D9.nv : Int)) ∧ wg = w') := fun wg q => by
          have := dused_any h9 D9 wg (MQ.out.dp.dk.later q)
          rw [G9.out] at this
          exact this
        have HP : Hid (∀ wg, Below wq.heap.size wq wg → Calls Tryd.prog 15 #[.pointer (some ⟨h.g, 0, none⟩)] wg fun e w' => e = .returned (.int .i64 (D9.pend.length : Int)) ∧ wg = w') := fun wg q => by
          have := dpending_any h9 D9 wg (MQ.out.dp.dk.later q)
          rw [G9.out] at this
          exact this
        have d0 : (wq).cell? ⟨g9, 0, none⟩ = some (.int .i64 D9.size) := MQ.out.n.cell 0
        have d1 : (wq).cell? ⟨g9, 1, none⟩ = some (.int .i64 D9.limit) := MQ.out.n.cell 1
        have d2 : (wq).cell? ⟨g9, 2, none⟩ = some (.slice C1 D9.nv f1) := MQ.out.n.cell 2
        have d3 : (wq).cell? ⟨g9, 3, none⟩ = some (.slice C2 D9.ng f2) := MQ.out.n.cell 3
        have d4 : (wq).cell? ⟨g9, 4, none⟩ = some (.slice C3 D9.pend.length f3) := MQ.out.n.cell 4
        have df0 : (wq).frozen? ⟨g9, 0, none⟩ = false := MQ.out.n.free 0
        have df1 : (wq).frozen? ⟨g9, 1, none⟩ = false := MQ.out.n.free 1
        have df2 : (wq).frozen? ⟨g9, 2, none⟩ = false := MQ.out.n.free 2
        have df3 : (wq).frozen? ⟨g9, 3, none⟩ = false := MQ.out.n.free 3
        have df4 : (wq).frozen? ⟨g9, 4, none⟩ = false := MQ.out.n.free 4
        have k0 : (wq).cell? ⟨g14, 0, none⟩ = some (.int .i64 a) := MQ.out.k.cell 0
        have k1 : (wq).cell? ⟨g14, 1, none⟩ = some (.int .i64 r1) := MQ.out.k.cell 1
        have k2 : (wq).cell? ⟨g14, 2, none⟩ = some (.int .u64 (n1 : Int)) := MQ.out.k.cell 2
        have kf0 : (wq).frozen? ⟨g14, 0, none⟩ = false := MQ.out.k.free 0
        have kf1 : (wq).frozen? ⟨g14, 1, none⟩ = false := MQ.out.k.free 1
        have kf2 : (wq).frozen? ⟨g14, 2, none⟩ = false := MQ.out.k.free 2
        clear df0 df1 df2 df3 df4 kf0 kf1 kf2 d0 d1 d3 k0 k1
        go_wp2_with fail
        refine wp_region_grow_lit (by kernel_rfl) (by kernel_rfl) ?_
        apply Exists.intro
        apply And.intro
        · repeat (first
            | (apply wpGrow_skip rfl
               intro K hK
               go_simp
               refine hK _ ?_
               clear hK K)
            | (apply wpGrow_is rfl
               · intro wg hwg _
                 have c0 := cell_later hwg d2
                 have c1 := cell_later hwg d4
                 have c2 := cell_later hwg k2
                 unfold grows
                 go_simp
                 first
                   | exact grows_value _ _
                   | (exact grows_same (HN.out wg hwg))
                   | (exact grows_same (HU.out wg hwg))
                   | (exact grows_same (HP.out wg hwg))
               intro K hK
               go_simp
               refine hK _ ?_
               clear hK K))
          refine wpGrow_end (fun wg hwg _ => ?_)
          have MZ := Lib.hid (MQ.out.later hwg)
          clear d2 d4 k2 HN HU HP
          go_wp2_with fail
          go_roundw
          case rel => exact ⟨i + 1, gm2, n1, l1, r1, _, h9, _, rfl, by go_num, by omega, by omega, MZ, MPA, G9⟩
          case measure => simp [intOf]; omega
        · apply And.intro
          · repeat (first | exact trivial | (refine ⟨Stays.is _, ?_⟩) | (refine ⟨Stays.bs _, ?_⟩) | (refine ⟨Stays.pg _ _ _, ?_⟩))
          · rfl
      · by_cases hk2 : kind = 2
        · subst hk2
          go_upto_region 25 with fail
          clear x0 x1 x2 x3 xf0 xf1 xf2 xf3
          have d0 : (w8).cell? ⟨g9, 0, none⟩ = some (.int .i64 S.D.size) := M8.out.n.cell 0
          have d1 : (w8).cell? ⟨g9, 1, none⟩ = some (.int .i64 S.D.limit) := M8.out.n.cell 1
          have d2 : (w8).cell? ⟨g9, 2, none⟩ = some (.slice B1 S.D.nv e1) := M8.out.n.cell 2
          have d3 : (w8).cell? ⟨g9, 3, none⟩ = some (.slice B2 S.D.ng e2) := M8.out.n.cell 3
          have d4 : (w8).cell? ⟨g9, 4, none⟩ = some (.slice B3 S.D.pend.length e3) := M8.out.n.cell 4
          have df0 : (w8).frozen? ⟨g9, 0, none⟩ = false := M8.out.n.free 0
          have df1 : (w8).frozen? ⟨g9, 1, none⟩ = false := M8.out.n.free 1
          have df2 : (w8).frozen? ⟨g9, 2, none⟩ = false := M8.out.n.free 2
          have df3 : (w8).frozen? ⟨g9, 3, none⟩ = false := M8.out.n.free 3
          have df4 : (w8).frozen? ⟨g9, 4, none⟩ = false := M8.out.n.free 4
          go_wp2_with fail
          refine (rmopen_any _ S.D a w8 M8.out.rd MPS.out.ok ha0 ha1).mono ?_
          rintro e wa ⟨rfl, qa⟩
          unfold rmV
          have qb := (Below.refl wa.heap.size wa).alloc (Nat.le_refl _) (.cells #[.int .i64 a, .int .i64 (rLast (mtOpen S.D.view a)), .int .u64 ((mtOpen S.D.view a).1 : Int)] 53)
          have MA := Lib.hid ((M8.out.later qa).later qb)
          have UA := Lib.hid (Blk.new wa 53 #[.int .i64 a, .int .i64 (rLast (mtOpen S.D.view a)), .int .u64 ((mtOpen S.D.view a).1 : Int)])
          have MPA := Lib.hid (MxP.opened (i := i + 1) MPS.out.ok MPS.out.pend a)
          clear qa qb d0 d1 d2 d3 d4 df0 df1 df2 df3 df4
          go_wp2_with fail
          generalize wa.alloc _ = WA at *
          generalize wa.heap.size = gu at *
          rw [← G8.out]
          refine (mopen_any h8 S.D a WA MA.out.dp.dk MPS.out.ok ha0 ha1).mono ?_
          rintro e wo ⟨gm2, rfl, hm, hgm, qo⟩
          rw [G8.out]
          have MO := Lib.hid ((MA.out.later qo).paged hm (Nat.le_trans MA.out.dp.below.size hgm))
          have UO := Lib.hid (UA.out.later qo)
          clear hm hgm qo MA UA
          generalize mtOpen S.D.view a = y at *
          have u0 : (wo).cell? ⟨gu, 0, none⟩ = some (.int .i64 a) := UO.out.cell 0
          have u1 : (wo).cell? ⟨gu, 1, none⟩ = some (.int .i64 (rLast y)) := UO.out.cell 1
          have u2 : (wo).cell? ⟨gu, 2, none⟩ = some (.int .u64 (y.1 : Int)) := UO.out.cell 2
          have uf0 : (wo).frozen? ⟨gu, 0, none⟩ = false := UO.out.free 0
          have uf1 : (wo).frozen? ⟨gu, 1, none⟩ = false := UO.out.free 1
          have uf2 : (wo).frozen? ⟨gu, 2, none⟩ = false := UO.out.free 2
          have k0 : (wo).cell? ⟨g14, 0, none⟩ = some (.int .i64 a) := MO.out.k.cell 0
          have k1 : (wo).cell? ⟨g14, 1, none⟩ = some (.int .i64 rl2) := MO.out.k.cell 1
          have k2 : (wo).cell? ⟨g14, 2, none⟩ = some (.int .u64 (S.num : Int)) := MO.out.k.cell 2
          have kf0 : (wo).frozen? ⟨g14, 0, none⟩ = false := MO.out.k.free 0
          have kf1 : (wo).frozen? ⟨g14, 1, none⟩ = false := MO.out.k.free 1
          have kf2 : (wo).frozen? ⟨g14, 2, none⟩ = false := MO.out.k.free 2
          go_upto_region 30 with fail
          have MQ := Lib.hid (MO.out.putK (rLast y) y.1)
          generalize hwq : World.setCell (World.setCell (World.setCell wo _ _) _ _) _ _ = wq at *
          clear hwq MO UO u0 u1 u2 uf0 uf1 uf2 k0 k1 k2 kf0 kf1 kf2
          obtain ⟨n1, hn1⟩ : ∃ n1, y.1 = n1 := ⟨_, rfl⟩
          obtain ⟨l1, hl1⟩ : ∃ l1, y.2.1 = l1 := ⟨_, rfl⟩
          obtain ⟨r1, hr1⟩ : ∃ r1, rLast y = r1 := ⟨_, rfl⟩
          rw [hn1, hl1, hr1] at MQ MPA
          clear hn1 hl1 hr1
          have HN : Hid (∀ wg, Below wq.heap.size wq wg → Calls Tryd.prog 13 #[.pointer (some ⟨gm2, 0, none⟩)] wg fun e w' => e = .returned (.int .u64 (n1 : Int)) ∧ wg = w') := fun wg q => mnumber_any h8 gm2 a n1 l1 wg (MQ.out.page.later q)
          have HU : Hid (∀ wg, Below wq.heap.size wq wg → Calls Tryd.prog 14 #[.pointer (some ⟨h.g, 0, none⟩)] wg fun e w' => e = .returned (.int .i64 (S.D.nv : Int)) ∧ wg = w') := fun wg q => by
            have := dused_any h8 S.D wg (MQ.out.dp.dk.later q)
            rw [G8.out] at this
            exact this
          have HP : Hid (∀ wg, Below wq.heap.size wq wg → Calls Tryd.prog 15 #[.pointer (some ⟨h.g, 0, none⟩)] wg fun e w' => e = .returned (.int .i64 (S.D.pend.length : Int)) ∧ wg = w') := fun wg q => by
            have := dpending_any h8 S.D wg (MQ.out.dp.dk.later q)
            rw [G8.out] at this
            exact this
          have d0 : (wq).cell? ⟨g9, 0, none⟩ = some (.int .i64 S.D.size) := MQ.out.n.cell 0
          have d1 : (wq).cell? ⟨g9, 1, none⟩ = some (.int .i64 S.D.limit) := MQ.out.n.cell 1
          have d2 : (wq).cell? ⟨g9, 2, none⟩ = some (.slice B1 S.D.nv e1) := MQ.out.n.cell 2
          have d3 : (wq).cell? ⟨g9, 3, none⟩ = some (.slice B2 S.D.ng e2) := MQ.out.n.cell 3
          have d4 : (wq).cell? ⟨g9, 4, none⟩ = some (.slice B3 S.D.pend.length e3) := MQ.out.n.cell 4
          have df0 : (wq).frozen? ⟨g9, 0, none⟩ = false := MQ.out.n.free 0
          have df1 : (wq).frozen? ⟨g9, 1, none⟩ = false := MQ.out.n.free 1
          have df2 : (wq).frozen? ⟨g9, 2, none⟩ = false := MQ.out.n.free 2
          have df3 : (wq).frozen? ⟨g9, 3, none⟩ = false := MQ.out.n.free 3
          have df4 : (wq).frozen? ⟨g9, 4, none⟩ = false := MQ.out.n.free 4
          have k0 : (wq).cell? ⟨g14, 0, none⟩ = some (.int .i64 a) := MQ.out.k.cell 0
          have k1 : (wq).cell? ⟨g14, 1, none⟩ = some (.int .i64 r1) := MQ.out.k.cell 1
          have k2 : (wq).cell? ⟨g14, 2, none⟩ = some (.int .u64 (n1 : Int)) := MQ.out.k.cell 2
          have kf0 : (wq).frozen? ⟨g14, 0, none⟩ = false := MQ.out.k.free 0
          have kf1 : (wq).frozen? ⟨g14, 1, none⟩ = false := MQ.out.k.free 1
          have kf2 : (wq).frozen? ⟨g14, 2, none⟩ = false := MQ.out.k.free 2
          clear df0 df1 df2 df3 df4 kf0 kf1 kf2 d0 d1 d3 k0 k1
          go_wp2_with fail
          refine wp_region_grow_lit (by kernel_rfl) (by kernel_rfl) ?_
          apply Exists.intro
          apply And.intro
          · repeat (first
              | (apply wpGrow_skip rfl
                 intro K hK
                 go_simp
                 refine hK _ ?_
                 clear hK K)
              | (apply wpGrow_is rfl
                 · intro wg hwg _
                   have c0 := cell_later hwg d2
                   have c1 := cell_later hwg d4
                   have c2 := cell_later hwg k2
                   unfold grows
                   go_simp
                   first
                     | exact grows_value _ _
                     | (exact grows_same (HN.out wg hwg))
                     | (exact grows_same (HU.out wg hwg))
                     | (exact grows_same (HP.out wg hwg))
                 intro K hK
                 go_simp
                 refine hK _ ?_
                 clear hK K))
            refine wpGrow_end (fun wg hwg _ => ?_)
            have MZ := Lib.hid (MQ.out.later hwg)
            clear d2 d4 k2 HN HU HP
            go_wp2_with fail
            go_roundw
            case rel => exact ⟨i + 1, gm2, n1, l1, r1, _, h8, _, rfl, by go_num, by omega, by omega, MZ, MPA, G8⟩
            case measure => simp [intOf]; omega
          · apply And.intro
            · repeat (first | exact trivial | (refine ⟨Stays.is _, ?_⟩) | (refine ⟨Stays.bs _, ?_⟩) | (refine ⟨Stays.pg _ _ _, ?_⟩))
            · rfl
        · have hb1 : (kind == 1) = false := by simpa using hk1
          have hb2 : (kind == 2) = false := by simpa using hk2
          have hd1 : decide (kind = 1) = false := by simpa using hk1
          have hd2 : decide (kind = 2) = false := by simpa using hk2
          go_wp2_with fail
          clear x0 x1 x2 x3 xf0 xf1 xf2 xf3
          have HN : Hid (∀ wg, Below w8.heap.size w8 wg → Calls Tryd.prog 13 #[.pointer (some ⟨gm, 0, none⟩)] wg fun e w' => e = .returned (.int .u64 (S.num : Int)) ∧ wg = w') := fun wg q => mnumber_any h8 gm a S.num S.last wg (M8.out.page.later q)
          have HU : Hid (∀ wg, Below w8.heap.size w8 wg → Calls Tryd.prog 14 #[.pointer (some ⟨h.g, 0, none⟩)] wg fun e w' => e = .returned (.int .i64 (S.D.nv : Int)) ∧ wg = w') := fun wg q => by
            have := dused_any h8 S.D wg (M8.out.dp.dk.later q)
            rw [G8.out] at this
            exact this
          have HP : Hid (∀ wg, Below w8.heap.size w8 wg → Calls Tryd.prog 15 #[.pointer (some ⟨h.g, 0, none⟩)] wg fun e w' => e = .returned (.int .i64 (S.D.pend.length : Int)) ∧ wg = w') := fun wg q => by
            have := dpending_any h8 S.D wg (M8.out.dp.dk.later q)
            rw [G8.out] at this
            exact this
          have d0 : (w8).cell? ⟨g9, 0, none⟩ = some (.int .i64 S.D.size) := M8.out.n.cell 0
          have d1 : (w8).cell? ⟨g9, 1, none⟩ = some (.int .i64 S.D.limit) := M8.out.n.cell 1
          have d2 : (w8).cell? ⟨g9, 2, none⟩ = some (.slice B1 S.D.nv e1) := M8.out.n.cell 2
          have d3 : (w8).cell? ⟨g9, 3, none⟩ = some (.slice B2 S.D.ng e2) := M8.out.n.cell 3
          have d4 : (w8).cell? ⟨g9, 4, none⟩ = some (.slice B3 S.D.pend.length e3) := M8.out.n.cell 4
          have df0 : (w8).frozen? ⟨g9, 0, none⟩ = false := M8.out.n.free 0
          have df1 : (w8).frozen? ⟨g9, 1, none⟩ = false := M8.out.n.free 1
          have df2 : (w8).frozen? ⟨g9, 2, none⟩ = false := M8.out.n.free 2
          have df3 : (w8).frozen? ⟨g9, 3, none⟩ = false := M8.out.n.free 3
          have df4 : (w8).frozen? ⟨g9, 4, none⟩ = false := M8.out.n.free 4
          have k0 : (w8).cell? ⟨g14, 0, none⟩ = some (.int .i64 a) := M8.out.k.cell 0
          have k1 : (w8).cell? ⟨g14, 1, none⟩ = some (.int .i64 rl2) := M8.out.k.cell 1
          have k2 : (w8).cell? ⟨g14, 2, none⟩ = some (.int .u64 (S.num : Int)) := M8.out.k.cell 2
          have kf0 : (w8).frozen? ⟨g14, 0, none⟩ = false := M8.out.k.free 0
          have kf1 : (w8).frozen? ⟨g14, 1, none⟩ = false := M8.out.k.free 1
          have kf2 : (w8).frozen? ⟨g14, 2, none⟩ = false := M8.out.k.free 2
          clear df0 df1 df2 df3 df4 kf0 kf1 kf2 d0 d1 d3 k0 k1
          go_wp2_with fail
          refine wp_region_grow_lit (by kernel_rfl) (by kernel_rfl) ?_
          apply Exists.intro
          apply And.intro
          · repeat (first
              | (apply wpGrow_skip rfl
                 intro K hK
                 go_simp
                 refine hK _ ?_
                 clear hK K)
              | (apply wpGrow_is rfl
                 · intro wg hwg _
                   have c0 := cell_later hwg d2
                   have c1 := cell_later hwg d4
                   have c2 := cell_later hwg k2
                   unfold grows
                   go_simp
                   first
                     | exact grows_value _ _
                     | (exact grows_same (HN.out wg hwg))
                     | (exact grows_same (HU.out wg hwg))
                     | (exact grows_same (HP.out wg hwg))
                 intro K hK
                 go_simp
                 refine hK _ ?_
                 clear hK K))
            refine wpGrow_end (fun wg hwg _ => ?_)
            have MZ := Lib.hid (M8.out.later hwg)
            clear d2 d4 k2 HN HU HP
            go_wp2_with fail
            go_roundw
            case rel => exact ⟨i + 1, gm, S.num, S.last, rl2, _, h8, _, rfl, by go_num, by omega, by omega, MZ, MPS, G8⟩
            case measure => simp [intOf]; omega
          · apply And.intro
            · repeat (first | exact trivial | (refine ⟨Stays.is _, ?_⟩) | (refine ⟨Stays.bs _, ?_⟩) | (refine ⟨Stays.pg _ _ _, ?_⟩))
            · rfl
    · apply And.intro
      · repeat (first
          | exact trivial
          | (refine ⟨okIs _ _ _ _, ?_⟩)
          | (refine ⟨ok_hasIs2 (.inl rfl) (.inr z9), ?_⟩)
          | (refine ⟨ok_hasIs2 (.inr z9.symm) (.inl rfl), ?_⟩)
          )
      · rfl
end Go.Proofs.YtpmndmgfoiagnaaDoor

namespace Go.Proofs.YtpmndmgfoiagnaaDoor
open Go Go.ChangeShapes Go.WideShapes Go.RowKit
set_option linter.unusedVariables false
section
variable {H : Type} {enc : TypeId × Value → H} {P : Program}

theorem trodAll_later {w w' : World} {base : Nat} {sp : Nat → Bool} {hd : Bool} : ∀ {ts : List TypeId} {vs : List Value} {ds : List (DataW H)} {ps : List MemPlace}, DataW.TrodAll enc P w base sp hd ts vs ds ps → (∀ p ∈ ps, w.sameAt w' p) → DataW.TrodAll enc P w' base sp hd ts vs ds ps
  | [], [], [], _, h, _ => h
  | _ :: _, _ :: _, _ :: _, _, ⟨p, q, ⟨n, h1⟩, h2, e⟩, hs => ⟨p, q, ⟨n, DataW.trod_carry n _ _ _ h1 (fun x hx => hs x (by rw [e]; exact List.mem_append_left _ hx))⟩, trodAll_later h2 (fun x hx => hs x (by rw [e]; exact List.mem_append_right _ hx)), e⟩

/-- The post of a law: it returned what the specification says; memory has only grown. -/
theorem law_post {f : Func} {s : ChangeSpec} {W W' : World} {args : Array Value} {v : Value} {ds gs : List (DataW H)} {before : List MemPlace} (K : Kids P (· < P.types.size)) (hz : ∀ t e, t < P.types.size → P.underlying t = some (.slice e) → 0 < P.cellsOf e)
    (hT : ∀ t ∈ f.params.toList, t < P.types.size) (hvs : s.vars = []) (hW : DataW.Whole enc P f.params.toList s.vars false W args.toList ds gs before) (hb : Below W.heap.size W W')
    (hargs : (s.fn H (ds ++ gs)).args = ds) (hvars : (s.fn H (ds ++ gs)).vars = [])
    (hres : DataW.TrodAll enc P W' W.heap.size (fun _ => false) false f.resultTypes.toList (v.resultList f.resultTypes.size) (s.fn H (ds ++ gs)).results []) :
    s.post enc P f false true false false W args v W' := by
  have hlt : ∀ p ∈ before, p.block < W.heap.size := fun p hp => hW.lt p hp
  have hW0 := hW
  obtain ⟨p, q, hA, hV, hpq, hfz, hnd⟩ := hW
  have hold : ∀ x ∈ p, (fun b => decide (b < W.heap.size)) x.block = true := fun x hx => by simpa using hlt x (by rw [hpq]; exact List.mem_append_left _ hx)
  have hA1 := DataW.TrodAll.respare K hz (spare' := fun b => decide (b < W.heap.size)) hT hA hold
  have hA2 := trodAll_later (w' := W') hA1 (fun x hx => hb.same (hlt x (by rw [hpq]; exact List.mem_append_left _ hx)))
  refine ⟨ds, gs, before, [], p, [], hW0, hres, by rw [hargs]; exact hA2, ?_, hb.frame _, fun h => by cases h⟩
  rw [hvs, hvars]
  exact rfl
end
end Go.Proofs.YtpmndmgfoiagnaaDoor

namespace Go.Proofs.YtpmndmgfoiagnaaDoor
open Go.ChangeShapes Go.WideShapes Go.ChangeAt Go.RowKit
open Go.ChangeMaps (open_string shut_string)
set_option linter.unusedVariables false

theorem own : ownKnob Tryd.prog.godebug = none := by kernel_rfl
theorem laidOut : laidOutB Tryd.prog = true := by kernel_rfl
/-- The reading stays among the rows of the table of types. -/
theorem kids : Kids Tryd.prog (· < Tryd.prog.types.size) := kids_rows laidOut (by kernel_rfl)
theorem full : ∀ t e, t < Tryd.prog.types.size → Tryd.prog.underlying t = some (.slice e) → 0 < Tryd.prog.cellsOf e := slices_full_of _ (by kernel_rfl)
theorem gTab : Tryd.prog.globalNamed "lapstone/num.bits" = some 0 := by kernel_rfl
theorem gTabType : (Tryd.prog.globals[0]?).map (·.type) = some 136 := by kernel_rfl
theorem cellsT : Tryd.prog.cellsOf 136 = 9 := by kernel_rfl
theorem cellsE : Tryd.prog.cellsOf 135 = 1 := by kernel_rfl

theorem bytes_len (s : ByteArray) : s.data.toList.length = s.size := rfl
theorem u64_nat {x : Int} (h : (Lit.int .u64 x).wf = true) : ∃ y : Nat, x = (y : Int) ∧ y < U64 := by
  simp only [Lit.wf, Bool.and_eq_true, decide_eq_true_eq] at h
  have h0 : IntKind.u64.min = 0 := rfl
  have h1 : IntKind.u64.max = 18446744073709551615 := rfl
  refine ⟨x.toNat, by omega, ?_⟩
  unfold U64
  omega
theorem u32_nat {x : Int} (h : (Lit.int .u32 x).wf = true) : ∃ y : Nat, x = (y : Int) ∧ y < 4294967296 := by
  simp only [Lit.wf, Bool.and_eq_true, decide_eq_true_eq] at h
  have h0 : IntKind.u32.min = 0 := rfl
  have h1 : IntKind.u32.max = 4294967295 := rfl
  exact ⟨x.toNat, by omega, by omega⟩
theorem u16_nat {x : Int} (h : (Lit.int .u16 x).wf = true) : ∃ y : Nat, x = (y : Int) ∧ y < 65536 := by
  simp only [Lit.wf, Bool.and_eq_true, decide_eq_true_eq] at h
  have h0 : IntKind.u16.min = 0 := rfl
  have h1 : IntKind.u16.max = 65535 := rfl
  exact ⟨x.toNat, by omega, by omega⟩
theorem u8_nat {x : Int} (h : (Lit.int .u8 x).wf = true) : ∃ y : Nat, x = (y : Int) ∧ y < 256 := by
  simp only [Lit.wf, Bool.and_eq_true, decide_eq_true_eq] at h
  have h0 : IntKind.u8.min = 0 := rfl
  have h1 : IntKind.u8.max = 255 := rfl
  exact ⟨x.toNat, by omega, by omega⟩
theorem int_bd {x : Int} (h : (Lit.int .i64 x).wf = true) : -9223372036854775808 ≤ x ∧ x ≤ 9223372036854775807 := by
  simp only [Lit.wf, Bool.and_eq_true, decide_eq_true_eq] at h
  exact h
theorem str_len {s : ByteArray} (h : s.size ≤ maxLen) : s.data.toList.length ≤ 9223372036854775807 := by
  rw [bytes_len]
  simp only [maxLen] at h
  omega

/-- WHAT THE ROWS' LIST GIVES: the table's cells hold its nine numbers. -/
theorem table {W : World} (h : laidMetH Tryd.prog [("lapstone/num.bits", Rows.laid_lapstone_num_bits)] W) : Lib.TabIs Tryd.prog W "lapstone/num.bits" .u64 [0, 8, 16, 24, 32, 40, 48, 56, 64] :=
  Lib.tabIs_of_head (rest := []) gTab gTabType Tryd.underlying136 Tryd.underlying135 cellsE cellsT h
theorem bitsOk {W : World} (h : laidMetH Tryd.prog [("lapstone/num.bits", Rows.laid_lapstone_num_bits)] W) : BitsOk W := by
  intro i hi
  have hc := (table h).cell gTab i hi
  rw [hc]
  match i, hi with
  | 0, _ | 1, _ | 2, _ | 3, _ | 4, _ | 5, _ | 6, _ | 7, _ | 8, _ => rfl

/-- A WORLD FOR THE WITNESS: the settled one, the table (block 0) holding what its initialiser lays. -/
noncomputable def laidWorld (os : Os) : World :=
  { World.holding Tryd.prog os ⟨#[], #[], []⟩ with heap := (World.holding Tryd.prog os ⟨#[], #[], []⟩).heap.modify 0 fun
      | .cells _ t frozen => .cells #[.int .u64 0, .int .u64 8, .int .u64 16, .int .u64 24, .int .u64 32, .int .u64 40, .int .u64 48, .int .u64 56, .int .u64 64] t frozen
      | o => o }
end Go.Proofs.YtpmndmgfoiagnaaDoor

namespace Go.Proofs.YtpmndmgfoiagnaaDoor
open Go.ChangeShapes Go.WideShapes Go.ChangeAt Go.RowKit Go.Deep
set_option linter.unusedVariables false
section
variable {H : Type} {enc : TypeId × Value → H} {P : Program} {w : World} {base : Nat} {spare : Nat → Bool} {held : Bool}
/-- A slice of structs, opened: each field's cell and reading. -/
theorem open_slice_fields {t e : TypeId} {fs : Array Field} {fuel : Nat} {cs : List Value} {x : DataW H × List MemPlace} (ht : P.underlying t = some (.slice e)) (he : P.underlying e = some (.struct fs))
    (hone : oneCellFields P fs = true) (hC : P.cellsOf e = fs.size) (h : DataW.trod enc P w base spare held fuel t cs = some x) :
    (cs = [.slice none 0 0] ∧ x = (.nil, [])) ∨
    ∃ (a : Addr) (len cap m : Nat) (D : Nat → DataW H) (Pl : Nat → List MemPlace), cs = [.slice (some a) len cap] ∧ base ≤ a.block ∧ len ≤ cap ∧ cap ≤ maxLen ∧ m = (if spare a.block then cap else len) ∧
      x = (.slice ((List.range len).map D) ((List.range (m - len)).map fun j => D (len + j)), MemPlace.row a (m * fs.size) ++ (List.range m).flatMap Pl) ∧
      ∀ i, i < m → ∃ (ys : List (DataW H × List MemPlace)) (n : Nat), D i = .agg (ys.map (·.1)) ∧ Pl i = ys.flatMap (·.2) ∧ ys.length = fs.size ∧
        ∀ (j : Nat) (f : Field), fs[j]? = some f → ∃ (v : Value) (y : DataW H × List MemPlace), w.cell? (a.add (i * fs.size + j)) = some v ∧ ys[j]? = some y ∧ DataW.trod enc P w base spare held n f.type [v] = some y := by
  rcases open_slice ht h with h0 | ⟨a, len, cap, m, n, D, Pl, hcs, hb, hl, hm, hmm, hx, hi⟩
  · exact .inl h0
  · refine .inr ⟨a, len, cap, m, D, Pl, hcs, hb, hl, hm, hmm, by rw [hC] at hx; exact hx, fun i him => ?_⟩
    obtain ⟨cs', hc, ht'⟩ := hi i him
    rw [hC] at hc
    obtain ⟨ys, n', hn', hy, hlen, hyl, hf⟩ := DataW.trod_struct he ht'
    obtain ⟨_, hcl, hat⟩ := World.cells?_some hc
    simp only [Prod.mk.injEq] at hy
    refine ⟨ys, n', hy.1, hy.2, hyl, fun j f hj => ?_⟩
    obtain ⟨ho, hk⟩ := hone_of hone j f hj
    have hjl : j < fs.size := (Array.getElem?_eq_some_iff.1 hj).1
    have hcell := hat j hjl
    have hv : cs'[j]? = some (cs'[j]'(by omega)) := List.getElem?_eq_getElem (by omega)
    have h1 := hf j f hj
    rw [ho, hk] at h1
    have hone' : (cs'.drop j).take 1 = [cs'[j]'(by omega)] := by
      rw [List.drop_eq_getElem_cons (by omega)]
      rfl
    rw [hone'] at h1
    have hys : ys[j]? = some (ys[j]'(by omega)) := List.getElem?_eq_getElem (by omega)
    refine ⟨_, _, ?_, hys, h1.trans hys⟩
    rw [← Go.Deep.add_add, hcell, hv]
end
end Go.Proofs.YtpmndmgfoiagnaaDoor

namespace Go.Proofs.YtpmndmgfoiagnaaDoor
open Go.ChangeShapes Go.WideShapes Go.ChangeAt Go.RowKit Go.Deep
set_option linter.unusedVariables false
section
variable {H : Type} {enc : TypeId × Value → H} {P : Program} {w : World} {base : Nat} {spare : Nat → Bool} {held : Bool}
theorem plain_of_cell {w : World} {a : Addr} {v : Value} (h : w.cell? a = some v) : a = ⟨a.block, a.off, none⟩ ∧ a.block < w.heap.size := by
  refine ⟨?_, World.block_lt_of_cell? w _ h⟩
  obtain ⟨ab, ao, asp⟩ := a
  cases asp with
  | none => rfl
  | some z =>
    unfold World.cell? at h
    split at h
    · simp at h
    · cases h
/-- A slice of pairs of integers, at one cell. -/
theorem open_surv {t e : TypeId} {f0 f1 : Field} {v : Value} {fuel : Nat} {x : DataW H × List MemPlace} (ht : P.underlying t = some (.slice e)) (he : P.underlying e = some (.struct #[f0, f1])) (hone : oneCellFields P #[f0, f1] = true) (hC : P.cellsOf e = 2)
    (h0 : P.underlying f0.type = some (.int .i64)) (h1 : P.underlying f1.type = some (.int .i64)) (hf : DataW.trod enc P w base spare held fuel t [v] = some x) :
    ∃ l : List (Int × Int), (∀ y ∈ l, InI y.1 ∧ InI y.2) ∧ Sv (fun b => b < w.heap.size) w v l := by
  rcases open_slice_fields ht he hone (by simpa using hC) hf with ⟨hc, _⟩ | ⟨a, len, cap, m, D, Pl, hcs, _, hl, hcm, hm, _, hi⟩
  · obtain rfl : v = .slice none 0 0 := by simpa using hc
    exact ⟨[], by simp, Sl.nil⟩
  · have hlm : len ≤ m := by rw [hm]; split <;> omega
    have key : ∀ i, i < len → ∃ x y : Int, w.cell? (a.add (i * 2)) = some (.int .i64 x) ∧ w.cell? (a.add (i * 2 + 1)) = some (.int .i64 y) ∧ InI x ∧ InI y := by
      intro i hil
      obtain ⟨ys, n, _, _, _, hfs⟩ := hi i (by omega)
      obtain ⟨v0, y0, c0, _, t0⟩ := hfs 0 f0 rfl
      obtain ⟨v1, y1, c1, _, t1⟩ := hfs 1 f1 rfl
      obtain ⟨x, e0, _, b0⟩ := DataW.trod_int h0 t0
      obtain ⟨y, e1, _, b1⟩ := DataW.trod_int h1 t1
      obtain rfl : v0 = _ := by simpa using e0
      obtain rfl : v1 = _ := by simpa using e1
      exact ⟨x, y, by simpa using c0, by simpa using c1, int_bd b0, int_bd b1⟩
    obtain rfl : v = .slice (some a) len cap := by simpa using hcs
    have hll : ((List.range len).map fun i => if h : i < len then ((key i h).choose, (key i h).choose_spec.choose) else ((0, 0) : Int × Int)).length = len := by simp
    refine ⟨(List.range len).map fun i => if h : i < len then ((key i h).choose, (key i h).choose_spec.choose) else (0, 0), ?_, ?_⟩
    · intro y hy
      obtain ⟨i, hi', rfl⟩ := List.mem_map.1 hy
      have hil := List.mem_range.1 hi'
      simp only [hil, dite_true]
      have := (key i hil).choose_spec.choose_spec
      exact ⟨this.2.2.1, this.2.2.2⟩
    · unfold Sv
      rw [hll]
      refine ⟨by rw [pcs_len, hll], some a, cap, rfl, hl, hcm, (fun h => by cases h), fun hl0 => ?_⟩
      obtain ⟨x, y, hc0, _⟩ := key 0 hl0
      obtain ⟨ab, ao, asp⟩ := a
      obtain ⟨hsp, hblt⟩ := plain_of_cell hc0
      simp [Addr.add] at hsp hblt
      subst hsp
      refine ⟨ab, ao, rfl, hblt, fun j u hu => ?_⟩
      have hjl : j < len * 2 := by
        have := (List.getElem?_eq_some_iff.1 hu).1
        rw [pcs_len, hll] at this
        exact this
      have hq : j / 2 < len := by omega
      have hk := (key (j / 2) hq).choose_spec.choose_spec
      have hat := pcs_at (l := (List.range len).map fun i => if h : i < len then ((key i h).choose, (key i h).choose_spec.choose) else ((0, 0) : Int × Int)) (j := j / 2) (by rw [hll]; exact hq)
      simp only [List.getElem_map, List.getElem_range, hq, dite_true] at hat
      have hmod : j = j / 2 * 2 ∨ j = j / 2 * 2 + 1 := by omega
      rcases hmod with h | h
      · rw [h] at hu
        rw [h]
        rw [hat.1] at hu
        injection hu with hu
        subst hu
        exact (congrArg (fun p => w.cell? p) (addr_add_none ab ao (j / 2 * 2))).symm.trans hk.1
      · rw [h] at hu
        rw [h]
        rw [hat.2] at hu
        injection hu with hu
        subst hu
        exact (congrArg (fun p => w.cell? p) (addr_add_none ab ao (j / 2 * 2 + 1))).symm.trans hk.2.1
theorem open_acts {r : Reach} {b0 : Nat} {t e ts es : TypeId} {f0 f1 f2 f3 g0 g1 : Field} {v : Value} {d : DataW H} {ps : List MemPlace} (ht : P.underlying t = some (.slice e)) (he : P.underlying e = some (.struct #[f0, f1, f2, f3])) (hone : oneCellFields P #[f0, f1, f2, f3] = true) (hC : P.cellsOf e = 4)
    (h0 : P.underlying f0.type = some (.int .i64)) (h1 : P.underlying f1.type = some (.int .i64)) (h2 : P.underlying f2.type = some .string) (h3 : f3.type = ts) (hts : P.underlying ts = some (.slice es)) (hes : P.underlying es = some (.struct #[g0, g1])) (hones : oneCellFields P #[g0, g1] = true) (hCs : P.cellsOf es = 2)
    (k0 : P.underlying g0.type = some (.int .i64)) (k1 : P.underlying g1.type = some (.int .i64)) (hval : Value.okWide P w r b0 t v) (h : DataW.Trod enc P w base spare held t v d ps) : ∃ xs : List MAct, Acts w v xs := by
  subst h3
  obtain ⟨fuel, hf⟩ := h
  obtain ⟨a', len', cap', rfl⟩ := okWide_slice ht hval
  rcases open_slice_fields ht he hone (by simpa using hC) hf with ⟨hc, _⟩ | ⟨a, len, cap, m, D, Pl, hcs, _, hl, hcm, hm, _, hi⟩
  · obtain ⟨rfl, rfl, rfl⟩ : a' = none ∧ len' = 0 ∧ cap' = 0 := by simpa [Value.cells] using hc
    exact ⟨[], none, 0, rfl, by simp, by simp, fun h => by simp at h⟩
  · have hlm : len ≤ m := by rw [hm]; split <;> omega
    have key : ∀ i, i < len → ∃ x : MAct, x.Ok w ∧ w.cell? (a.add (i * 4)) = some (.int .i64 x.kind) ∧ w.cell? (a.add (i * 4 + 1)) = some (.int .i64 x.steps) ∧ w.cell? (a.add (i * 4 + 2)) = some (.string (st x.body)) ∧ w.cell? (a.add (i * 4 + 3)) = some x.v := by
      intro i hil
      obtain ⟨ys, n, _, _, _, hfs⟩ := hi i (by omega)
      obtain ⟨v0, y0, c0, _, t0⟩ := hfs 0 f0 rfl
      obtain ⟨v1, y1, c1, _, t1⟩ := hfs 1 f1 rfl
      obtain ⟨v2, y2, c2, _, t2⟩ := hfs 2 f2 rfl
      obtain ⟨v3, y3, c3, _, t3⟩ := hfs 3 f3 rfl
      obtain ⟨x, e0, _, b0⟩ := DataW.trod_int h0 t0
      obtain ⟨y, e1, _, b1⟩ := DataW.trod_int h1 t1
      obtain ⟨s, e2, _, b2⟩ := DataW.trod_string h2 t2
      obtain rfl : v0 = _ := by simpa using e0
      obtain rfl : v1 = _ := by simpa using e1
      obtain rfl : v2 = _ := by simpa using e2
      obtain ⟨l, hlb, hsv⟩ := open_surv hts hes hones hCs k0 k1 t3
      exact ⟨⟨x, y, s.data.toList, l, v3⟩, ⟨int_bd b0, int_bd b1, hlb, hsv⟩, by simpa using c0, by simpa using c1, by simpa [st_of] using c2, by simpa using c3⟩
    obtain ⟨rfl, rfl, rfl⟩ : a' = some a ∧ len' = len ∧ cap' = cap := by simpa [Value.cells] using hcs
    have hll : ((List.range len').map fun i => if h : i < len' then (key i h).choose else (⟨0, 0, [], [], .slice none 0 0⟩ : MAct)).length = len' := by simp
    refine ⟨(List.range len').map fun i => if h : i < len' then (key i h).choose else (⟨0, 0, [], [], .slice none 0 0⟩ : MAct), some a, cap', by rw [hll], by rw [hll]; simp only [maxLen] at hcm; omega, ?_, fun hl0 => ?_⟩
    · intro y hy
      obtain ⟨i, hi', rfl⟩ := List.mem_map.1 hy
      have hil := List.mem_range.1 hi'
      simp only [hil, dite_true]
      exact (key i hil).choose_spec.1
    · rw [hll] at hl0
      obtain ⟨x, _, hc0, _⟩ := key 0 hl0
      obtain ⟨ab, ao, asp⟩ := a
      obtain ⟨hsp, hblt⟩ := plain_of_cell hc0
      simp [Addr.add] at hsp hblt
      subst hsp
      refine ⟨ab, ao, rfl, hblt, fun j hj => ?_⟩
      have hjl : j < len' := by rw [hll] at hj; exact hj
      have hk := (key j hjl).choose_spec.2
      simp only [List.getElem_map, List.getElem_range, hjl, dite_true]
      generalize (key j hjl).choose = y at hk ⊢
      simp only [addr_add_none, ← Nat.add_assoc] at hk
      exact hk
end
end Go.Proofs.YtpmndmgfoiagnaaDoor
