/- What the proof of WalPlays needs, part 27. -/
import Derived.Test.YtojlldalhhibmaaGreatDoorWalPlaysJ16
import Derived.Test.YtojlldalhhibmaaGreatDoorWalPlaysJ26
import Derived.Deep.CutBlock
import Derived.IntWalk
import Derived.Deep.Cut
import Derived.Deep.DeepCutAuto

namespace Go.Proofs.YtojlldalhhibmaaGreatDoor
open Go Go.RowKit
set_option linter.unusedVariables false

set_option maxHeartbeats 40000000 in
set_option maxRecDepth 100000 in
theorem law_WalPlays (ds a n s : Int) (frm : Nat) (v : Value) (xs : List LAct) (w : World) (hb : BitsOk w) (hds : InI ds) (hai : InI a) (hni : InI n) (hsi : InI s) (hfu : frm < U64) (hv : LActs w v xs) :
    Calls Tryz.prog 3 #[.agg #[.int .i64 ds, .int .i64 a, .int .i64 n, .int .i64 s], .int .u64 (frm : Int), v] w fun e w' => e = .returned (.bool true) ∧ Below w.heap.size w w' := by
  obtain ⟨A0, c0, rfl, hmx, hok, hA0⟩ := hv
  have HA := Lib.hid hA0
  have HB := Lib.hid hb
  have HX := Lib.hid hok
  have HFU := Lib.hid hfu
  have QP := Lib.hid ((Below.refl w.heap.size w).alloc (Nat.le_refl _) (.cells #[.int .i64 ds, .int .i64 a, .int .i64 n, .int .i64 s] 23))
  have BP := Lib.hid (Blk.new w 23 #[.int .i64 ds, .int .i64 a, .int .i64 n, .int .i64 s])
  clear hb hA0 hok hfu
  go_enter Tryz.func3, Tryz.ntmps3
  go_upto_region 1 with (fail)
  generalize hwp : w.alloc _ = wp at *
  clear hwp
  have p0 : wp.cell? ⟨w.heap.size, 0, none⟩ = some (.int .i64 ds) := BP.out.cell 0
  by_cases hsz : 1 ≤ ds ∧ ds ≤ 65536
  case neg =>
    have hbad : ds < 1 ∨ 65536 < ds := by omega
    clear hsz
    go_wp2_with fail
    refine (dnew_bad ds wp hbad).mono ?_
    rintro e w1 ⟨rfl, q1⟩
    have p0 := cell_later q1 p0
    have Q1 := Lib.hid (QP.out.trans (q1.mono QP.out.size))
    clear q1
    go_wp2_with fail
    refine (rdnew_bad8 ds w1 hbad).mono ?_
    rintro e w2 ⟨rfl, q2⟩
    have q3 := (Q1.out.trans (q2.mono Q1.out.size)).alloc (Q1.out.trans (q2.mono Q1.out.size)).size (.cells #[.int .i64 0, .int .i64 0, .slice none 0 0, .slice none 0 0, .slice none 0 0] 33)
    have HQ := Lib.hid q3
    clear q2 q3
    go_wp2_with fail
    refine (awake8_any _ (HB.out.later HQ.out)).mono ?_
    rintro e w3 ⟨rfl, q4⟩
    have HQ2 := Lib.hid (HQ.out.trans (q4.mono HQ.out.size))
    clear q4
    go_wp2_with fail
    refine (awake8_any _ (HB.out.later HQ2.out)).mono ?_
    rintro e w4 ⟨rfl, q4⟩
    have HQ3 := Lib.hid (HQ2.out.trans (q4.mono HQ2.out.size))
    clear q4
    go_wp2_with fail
    go_ret
    exact ⟨rfl, HQ3.out⟩
  obtain ⟨hs1, hs2⟩ := hsz
  go_wp2_with fail
  refine (dnew_any ds wp hs1 hs2).mono ?_
  rintro e w1 ⟨h, rfl, hd, hnew, hbl⟩
  have D1 : Hid (Dp w w1 h (Dsk.new ds)) := ⟨hd, fun b hb => Nat.le_trans QP.out.size (hnew b hb), QP.out.trans (hbl.mono QP.out.size)⟩
  have P1 := Lib.hid (BP.out.later hbl)
  have p0 : w1.cell? ⟨w.heap.size, 0, none⟩ = some (.int .i64 ds) := P1.out.cell 0
  clear hd hnew hbl BP QP
  go_wp2_with fail
  refine (rdnew_any ds w1 hs1 hs2).mono ?_
  rintro e w2 ⟨nv, rfl, hr, q2⟩
  obtain ⟨A1, c1, A2, c2, A3, c3, rfl⟩ := hr.shape
  have QD := (Below.refl w2.heap.size w2).alloc (Nat.le_refl _) (.cells #[.int .i64 (Dsk.new ds).size, .int .i64 (Dsk.new ds).limit, .slice A1 (Dsk.new ds).nv c1, .slice A2 (Dsk.new ds).ng c2, .slice A3 (Dsk.new ds).pend.length c3] 33)
  have D2 := Lib.hid ((D1.out.later q2).later QD)
  have R2 := Lib.hid (hr.later QD)
  have B2 := Lib.hid (Blk.new w2 33 #[.int .i64 (Dsk.new ds).size, .int .i64 (Dsk.new ds).limit, .slice A1 (Dsk.new ds).nv c1, .slice A2 (Dsk.new ds).ng c2, .slice A3 (Dsk.new ds).pend.length c3])
  have P2 := Lib.hid ((P1.out.later q2).later QD)
  clear hr q2 QD D1 P1 p0
  go_wp2_with fail
  refine (awake8_any _ (HB.out.later D2.out.below)).mono ?_
  rintro e w3 ⟨rfl, q⟩
  have D3 := Lib.hid (D2.out.later q)
  have R3 := Lib.hid (R2.out.later q)
  have B3 := Lib.hid (B2.out.later q)
  have P3 := Lib.hid (P2.out.later q)
  clear q D2 R2 B2 P2
  have OK0 := Lib.hid (Dsk.Ok.new hs1 hs2)
  have PE0 : Hid ((Dsk.new ds).pend.length = 0) := rfl
  generalize Dsk.new ds = D0 at *
  generalize w2.heap.size = g9 at *
  clear hs1 hs2 w1 w2
  have p0 : (w3).cell? ⟨w.heap.size, 0, none⟩ = some (.int .i64 ds) := P3.out.cell 0
  have p1 : (w3).cell? ⟨w.heap.size, 1, none⟩ = some (.int .i64 a) := P3.out.cell 1
  have p2 : (w3).cell? ⟨w.heap.size, 2, none⟩ = some (.int .i64 n) := P3.out.cell 2
  have p3 : (w3).cell? ⟨w.heap.size, 3, none⟩ = some (.int .i64 s) := P3.out.cell 3
  by_cases hbig : 10 < n
  · go_wp2_with fail
    go_ret
    exact ⟨rfl, D3.out.below⟩
  by_cases hbis : 4 < s
  · go_wp2_with fail
    go_ret
    exact ⟨rfl, D3.out.below⟩
  by_cases hbif : 4611686018427387904 < frm
  · have hbf : (4611686018427387904 : Int) < (frm : Int) := by omega
    go_wp2_with fail
    go_ret
    exact ⟨rfl, D3.out.below⟩
  have hbf : ¬ (4611686018427387904 : Int) < (frm : Int) := by omega
  go_upto_region 7 with (fail)
  clear hbif hbf
  by_cases hpl : plOk a n s
  case neg =>
    go_wp2_with fail
    refine (lgopen_bad _ a n s frm w3 hpl).mono ?_
    rintro e w4 ⟨rfl, rfl⟩
    have d0 : (w3).cell? ⟨g9, 0, none⟩ = some (.int .i64 D0.size) := B3.out.cell 0
    have d1 : (w3).cell? ⟨g9, 1, none⟩ = some (.int .i64 D0.limit) := B3.out.cell 1
    have d2 : (w3).cell? ⟨g9, 2, none⟩ = some (.slice A1 D0.nv c1) := B3.out.cell 2
    have d3 : (w3).cell? ⟨g9, 3, none⟩ = some (.slice A2 D0.ng c2) := B3.out.cell 3
    have d4 : (w3).cell? ⟨g9, 4, none⟩ = some (.slice A3 D0.pend.length c3) := B3.out.cell 4
    go_wp2_with fail
    refine (refWOpen_bad _ D0 a n s frm w3 R3.out hpl).mono ?_
    rintro e w5 ⟨rfl, q5⟩
    have QQ := Lib.hid ((D3.out.below.trans (q5.mono D3.out.below.size)).alloc (D3.out.below.trans (q5.mono D3.out.below.size)).size (.cells zlog 43))
    clear q5 p0 p1 p2 p3 d0 d1 d2 d3 d4
    unfold zlog at QQ ⊢
    go_wp2_with fail
    refine (rsame_any (fun _ => True) (fun _ => True) (.slice none 0 0) (.slice none 0 0) [] [] _ Sl.nil Sl.nil).mono ?_
    rintro e w6 ⟨rfl, k6, rfl⟩
    have QR := Lib.hid (below_drewN QQ.out k6)
    go_wp2_with fail
    go_loopw [11, 17] (fun mv iv wr => mv = .pointer none ∧ iv = .int .i64 0 ∧ Below w.heap.size w wr) (fun _ _ _ => 0)
    case atStart => exact ⟨rfl, rfl, QR.out⟩
    case round =>
      obtain ⟨rfl, rfl, q⟩ := hrel
      by_cases hl : 0 < xs.length
      · go_wp2_with fail
        go_ret
        exact ⟨rfl, q⟩
      · go_wp2_with fail
        go_ret
        exact ⟨rfl, q⟩
  obtain ⟨h2n, h64n, h1s, h64s, ha0, ha1⟩ := hpl
  obtain ⟨nn, rfl⟩ : ∃ nn : Nat, n = (nn : Int) := ⟨n.toNat, by omega⟩
  obtain ⟨ss, rfl⟩ : ∃ ss : Nat, s = (ss : Int) := ⟨s.toNat, by omega⟩
  have HN : Hid ((2 ≤ nn ∧ nn ≤ 64) ∧ (1 ≤ ss ∧ ss ≤ 64) ∧ ss ≤ 4 ∧ 0 ≤ a ∧ a + (nn : Int) * ss ≤ 65536) := ⟨⟨by omega, by omega⟩, ⟨by omega, by omega⟩, by omega, ha0, by omega⟩
  clear h2n h64n h1s h64s ha0 ha1 hbig hbis
  go_wp2_with fail
  refine (lopen_lp D3.out OK0.out HN.out.1.1 HN.out.1.2 HN.out.2.1.1 HN.out.2.1.2 HN.out.2.2.2.1 HN.out.2.2.2.2 HFU.out (by have := PE0.out; omega) rfl).mono ?_
  rintro e w4 ⟨gl, A4, k4, c4, h4, rfl, hp, hg, ho, hst⟩
  have R4 := Lib.hid (R3.out.same (hst.same D3.out.dk (by decide) (by decide) (by decide)))
  have B4 := Lib.hid (hst.blk D3.out.dk B3.out (by decide) (by decide))
  have P4 := Lib.hid (hst.blk D3.out.dk P3.out (by decide) (by decide))
  obtain ⟨O, hO⟩ : ∃ O, wOpen D0 a nn ss frm = O := ⟨_, rfl⟩
  have LXP : Hid (LxP O.1 a nn ss 0) := by rw [Hid, ← hO]; exact LxP.opened OK0.out HN.out.2.1.2 HFU.out
  rw [hO] at hp ho
  obtain rfl := own_len ho
  have LP4 := Lib.hid hp
  have T4 := Lib.hid ho
  have G4 := Lib.hid hg
  clear hp hg ho hst p0 p1 p2 p3 D3 R3 B3 P3
  have p0 : (w4).cell? ⟨w.heap.size, 0, none⟩ = some (.int .i64 ds) := P4.out.cell 0
  have p1 : (w4).cell? ⟨w.heap.size, 1, none⟩ = some (.int .i64 a) := P4.out.cell 1
  have p2 : (w4).cell? ⟨w.heap.size, 2, none⟩ = some (.int .i64 (nn : Int)) := P4.out.cell 2
  have p3 : (w4).cell? ⟨w.heap.size, 3, none⟩ = some (.int .i64 (ss : Int)) := P4.out.cell 3
  have d0 : (w4).cell? ⟨g9, 0, none⟩ = some (.int .i64 D0.size) := B4.out.cell 0
  have d1 : (w4).cell? ⟨g9, 1, none⟩ = some (.int .i64 D0.limit) := B4.out.cell 1
  have d2 : (w4).cell? ⟨g9, 2, none⟩ = some (.slice A1 D0.nv c1) := B4.out.cell 2
  have d3 : (w4).cell? ⟨g9, 3, none⟩ = some (.slice A2 D0.ng c2) := B4.out.cell 3
  have d4 : (w4).cell? ⟨g9, 4, none⟩ = some (.slice A3 D0.pend.length c3) := B4.out.cell 4
  go_wp2_with fail
  refine (refWOpen_any _ D0 a nn ss frm w4 R4.out OK0.out HN.out.1.1 HN.out.1.2 HN.out.2.1.1 HN.out.2.1.2 HN.out.2.2.2.1 HN.out.2.2.2.2 HFU.out (by have := PE0.out; omega)).mono ?_
  rintro e w5 ⟨v5, A5, k5, c5, rfl, hr5, ho5, q5⟩
  rw [hO] at hr5 ho5
  obtain ⟨E1, e1, E2, e2, E3, e3, E4, e4, rfl, HD5, HG5⟩ := hr5
  obtain rfl := own_len ho5
  obtain ⟨l, rs⟩ := O
  simp only at LP4 T4 LXP HD5 HG5 ho5 ⊢
  have QA := (Below.refl w5.heap.size w5).alloc (Nat.le_refl _) (.cells (rlC l E1 e1 E2 e2 E3 e3 E4 e4) 43)
  have LP5 := Lib.hid ((LP4.out.later q5).later QA)
  have KY5 : Hid (Ky w _ #[.int .i64 ds, .int .i64 a, .int .i64 (nn : Int), .int .i64 (ss : Int)] w5.heap.size l E1 e1 E2 e2 E3 e3 E4 e4) := ⟨⟨Blk.new w5 43 (rlC l E1 e1 E2 e2 E3 e3 E4 e4), HD5.out.later QA, KSl.later HG5.out QA⟩, Nat.le_trans LP4.out.dp.below.size q5.size, (P4.out.later q5).later QA⟩
  have T5 := Lib.hid (own_later (own_later T4.out q5) QA)
  have U5 := Lib.hid (own_later ho5 QA)
  clear HD5 HG5 ho5 q5 QA p0 p1 p2 p3 d0 d1 d2 d3 d4 R4 B4 P4 LP4 T4 hO
  unfold rlC at LP5 KY5 T5 U5
  unfold rlC
  go_wp2_with fail
  refine (rsame_any _ _ _ _ rs rs _ (Sl.of_own (by omega) T5.out) (Sl.of_own (by omega) U5.out)).mono ?_
  rintro e w6 ⟨rfl, k6, rfl⟩
  rw [decide_eq_true (rfl : rs = rs)]
  have LP6 := Lib.hid (LP5.out.later (below_drewN (Below.refl _ _) k6))
  have KY6 := Lib.hid (KY5.out.later (below_drewN (Below.refl _ _) k6))
  clear LP5 KY5 T5 U5
  generalize World.drewN (w5.alloc _) k6 = W6 at *
  generalize w5.heap.size = gk at *
  obtain ⟨pd, hpd⟩ : ∃ pd, h.g = pd := ⟨_, rfl⟩
  rw [hpd] at G4 ⊢
  clear hpd
  go_upto_block 0 with (fail)
  go_cut [] (fun wx => Below w.heap.size w wx)
  case first =>
    rename_i J K' hJ hK
    exact wp_loop0 _ _ _ _ _ _ _ _ _ _ _ _ _ _ _ _ _ _ _ _ _ _ _ _ _ _ _ _ _ _ _ _ _ _ _ _ _ _ _ _ _ _ _ _ _ _ _ _ _ _ _ _ _ _ _ _ _ _ _ _ _ _ _ _ _ _ _ _ _ _ _ _ _ _ _ _ _ _ _ _ _ _ _ _ _ _ _ _ _ _ _ _ _ _ _ _ _ _ _ _ _ _ _ _ _ _ _ _ _ _ _ _ _ _ _ _ _ _ _ _ _ _ _ _ _ _ _ _ _ _ _ _ _ _ _ _ _ _ _ _ _ _ _ _ _ _ _ _ _ _ _ _ _ _ _ _ _ _ _ _ _ _ _ _ _ _ _ _ _ _ _ _ _ _ _ _ _ _ _ _ _ _ _ _ _ _ _ _ _ _ _ _ _ _ _ _ _ _ _ _ _ _ _ _ _ _ _ _ _ _ _ _ _ _ _ _ _ _ _ _ _ _ _ _ _ _ _ _ _ _ _ _ _ _ _ _ _ _ _ _ _ _ _ _ _ _ _ _ _ _ _ _ _ _ _ _ _ _ _ _ _ _ _ _ _ _ _ _ _ _ _ _ _ _ _ _ _ _ _ _ _ _ _ _ _ _ _ _ _ _ _ _ _ _ _ _ _ _ _ _ _ _ _ _ _ _ _ _ _ _ _ _ _ _ _ _ _ _ _ hK (Lib.hid fun u6 u11 u17 u18 u19 u20 u21 u22 u23 u24 u25 u26 u27 u28 u29 u30 u31 u119 u120 u121 u122 u123 u124 u125 u126 u127 u128 u129 u130 u131 u132 u133 u134 u135 u136 u137 u138 u139 u140 u141 u142 u143 u144 u145 u146 u147 u148 u149 u150 u151 u152 u153 u154 u155 u156 u157 u158 u159 u160 u161 u162 u163 u164 u165 u166 u167 u168 u169 u170 u171 u172 u173 u174 u175 u176 u177 u178 u179 u180 u181 u182 u183 u184 u185 u186 u187 u188 u189 u190 u191 u192 u193 u194 u195 u196 u197 u198 u199 u200 u201 u202 u203 u204 u205 u206 u207 u208 u209 u210 u211 u212 u213 u214 u215 u216 u217 u218 u219 u220 u221 u222 u223 u224 u225 u226 u227 u228 u229 u230 u231 u232 u233 u234 u235 u236 u237 u238 u239 u240 u241 u242 u243 u244 u245 u246 u247 u248 u249 u250 u251 u252 u253 u254 u255 u256 u257 u258 u259 u260 u261 u262 u263 u264 u265 u266 u267 u268 u269 u270 u271 u272 u273 u274 u275 u276 u277 u278 u279 u280 u281 u282 u283 u284 u285 u286 u287 u288 u289 u290 u291 u292 u293 u294 u295 u296 u297 u298 u299 w' h => hJ _ _ ⟨u6, u11, u17, u18, u19, u20, u21, u22, u23, u24, u25, u26, u27, u28, u29, u30, u31, u119, u120, u121, u122, u123, u124, u125, u126, u127, u128, u129, u130, u131, u132, u133, u134, u135, u136, u137, u138, u139, u140, u141, u142, u143, u144, u145, u146, u147, u148, u149, u150, u151, u152, u153, u154, u155, u156, u157, u158, u159, u160, u161, u162, u163, u164, u165, u166, u167, u168, u169, u170, u171, u172, u173, u174, u175, u176, u177, u178, u179, u180, u181, u182, u183, u184, u185, u186, u187, u188, u189, u190, u191, u192, u193, u194, u195, u196, u197, u198, u199, u200, u201, u202, u203, u204, u205, u206, u207, u208, u209, u210, u211, u212, u213, u214, u215, u216, u217, u218, u219, u220, u221, u222, u223, u224, u225, u226, u227, u228, u229, u230, u231, u232, u233, u234, u235, u236, u237, u238, u239, u240, u241, u242, u243, u244, u245, u246, u247, u248, u249, u250, u251, u252, u253, u254, u255, u256, u257, u258, u259, u260, u261, u262, u263, u264, u265, u266, u267, u268, u269, u270, u271, u272, u273, u274, u275, u276, u277, u278, u279, u280, u281, u282, u283, u284, u285, u286, u287, u288, u289, u290, u291, u292, u293, u294, u295, u296, u297, u298, u299, h, rfl⟩) HA.out hmx HX HB HN LP6 KY6 LXP G4
  case rest =>
    go_wp2_with fail
    go_ret
    exact ⟨rfl, hcut⟩
end Go.Proofs.YtojlldalhhibmaaGreatDoor
