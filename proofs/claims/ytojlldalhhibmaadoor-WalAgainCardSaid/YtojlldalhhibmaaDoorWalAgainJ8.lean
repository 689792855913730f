/- What the proof of WalAgain needs, part 8. -/
import Derived.Test.YtojlldalhhibmaaDoorWalAgainJ7
import Derived.StillTailTactics
import Derived.Deep.RegionLaw
import Derived.Deep.Cut
import Derived.Deep.DeepCutAuto
import Derived.Deep.LoopGhost
import Derived.Deep.RegionHeld3
import Derived.IntWalk

namespace Go.Proofs.YtojlldalhhibmaaDoor
open Go Go.RowKit
set_option linter.unusedVariables false

/-- Where the first one stands. -/
def FirstAt (L : List (Fd × Value)) (p : Option Fd) (r : Int) : Prop := (r = -1 ∧ p = none) ∨ ∃ (j : Nat) (hj : j < L.length), r = (j : Int) ∧ p = some L[j].1
theorem wPick_take {L : List (Fd × Value)} {frm i : Nat} (hi : i < L.length) : wPick frm ((L.map Prod.fst).take (i + 1)) none = wBest frm (wPick frm ((L.map Prod.fst).take i) none) L[i].1 := by
  have hlm : i < (L.map Prod.fst).length := by rw [List.length_map]; exact hi
  rw [List.take_add_one, List.getElem?_eq_getElem hlm, wPick_append]
  simp [wPick, wBest]
theorem wBest_no {frm : Nat} {b : Option Fd} {x : Fd} (h : x.fits frm = false) : wBest frm b x = b := by unfold wBest; rw [h]; simp
theorem wBest_yes {frm : Nat} {b : Option Fd} {x : Fd} (h : x.fits frm = true) (hb : betterB b x = true) : wBest frm b x = some x := by unfold wBest; rw [h, hb]; simp
theorem wBest_less {frm : Nat} {b : Option Fd} {x : Fd} (hb : betterB b x = false) : wBest frm b x = b := by unfold wBest; rw [hb]; simp

section
variable {D : Dsk} {a : Int} {n size frm last : Nat} {live : List Sg} {out : List Rcd} (h : wChain (wAll D.view a size n) frm (n + 1) [] frm [] (wPick frm (wAll D.view a size n) none) = (live, last, out))
include h
theorem ow_out : (wOpen D a n size frm).2 = out := by simp only [wOpen, h]
theorem ow_D : (wOpen D a n size frm).1.D = (wFreeAll D a size live n).sync := by simp only [wOpen, h, Wl.sync]
theorem ow_last : (wOpen D a n size frm).1.last = max last frm := by simp only [wOpen, h, Wl.sync]
theorem ow_synced : (wOpen D a n size frm).1.synced = max last frm := by simp only [wOpen, h, Wl.sync]
theorem ow_live : (wOpen D a n size frm).1.live = live := by simp only [wOpen, h, Wl.sync]
end
set_option maxHeartbeats 8000000 in
set_option maxRecDepth 100000 in
theorem lgopen_any (h : Zn) (D : Dsk) (a : Int) (n size frm : Nat) (w : World) (hd : Dk w h D) (hok : D.Ok) (hn2 : 2 ≤ n) (hn : n ≤ 64) (hs1 : 1 ≤ size) (hs : size ≤ 64) (h0 : 0 ≤ a) (h1 : a + (n : Int) * size ≤ 65536) (hf : frm < U64) (hp : D.pend.length ≤ 800000) :
    Calls Tryd.prog 7 #[.pointer (some ⟨h.g, 0, none⟩), .int .i64 a, .int .i64 (n : Int), .int .i64 (size : Int), .int .u64 (frm : Int)] w fun e w' => ∃ gl lv' sv' A k c h', e = .returned (.tuple #[.pointer (some ⟨gl, 0, none⟩), .slice A k c, .int .i64 0]) ∧
      Dk w' h' (wOpen D a n size frm).1.D ∧ Lb w' gl h.g a n size lv' sv' (wOpen D a n size frm).1.last (wOpen D a n size frm).1.synced ∧ Rg3 w' lv' (wOpen D a n size frm).1.live ∧ sv' = .slice none 0 0 ∧ w.heap.size ≤ gl ∧
      w'.ownsRow w.heap.size 41 2 (.slice A k c) (wOpen D a n size frm).2.length (rcs (wOpen D a n size frm).2) ∧ Stp h w h' w' := by
  have HD := Lib.hid hd
  have HOK := Lib.hid hok
  have HF := Lib.hid hf
  have HP := Lib.hid hp
  have hmul := seg_mul hn hs
  have hw1 : IntKind.i64.wrap ((n : Int) * size) = (n : Int) * size := i64_in (by omega) (by omega)
  have hw2 : IntKind.i64.wrap (65536 - (n : Int) * size) = 65536 - (n : Int) * size := i64_in (by omega) (by omega)
  clear hd hok hf hp
  go_enter Tryd.func7, Tryd.ntmps7
  go_wp2_with fail
  have qa : Below w.heap.size w ((w.alloc (.cells (lgC h.g a n size (.slice none 0 0) (.slice none 0 0) frm 0) 54)).alloc (.cells #[.pointer (some ⟨w.heap.size, 0, none⟩)] 30)) := ((Below.refl _ _).alloc (Nat.le_refl _) _).alloc (by simp) _
  have HL : Hid (Lb ((w.alloc (.cells (lgC h.g a n size (.slice none 0 0) (.slice none 0 0) frm 0) 54)).alloc (.cells #[.pointer (some ⟨w.heap.size, 0, none⟩)] 30)) w.heap.size h.g a n size (.slice none 0 0) (.slice none 0 0) frm 0) := (Blk.new _ _ _).alloc _
  have HG : Hid (Blk ((w.alloc (.cells (lgC h.g a n size (.slice none 0 0) (.slice none 0 0) frm 0) 54)).alloc (.cells #[.pointer (some ⟨w.heap.size, 0, none⟩)] 30)) (w.heap.size + 1) 30 #[.pointer (some ⟨w.heap.size, 0, none⟩)]) := by
    have := Blk.new (w.alloc (.cells (lgC h.g a n size (.slice none 0 0) (.slice none 0 0) frm 0) 54)) 30 #[.pointer (some ⟨w.heap.size, 0, none⟩)]
    simpa [Hid] using this
  have HQ := Lib.hid qa
  clear qa
  refine (lglook_any h D w.heap.size a n size (.slice none 0 0) (.slice none 0 0) frm 0 _ (HD.out.later HQ.out) HOK.out HL.out hn hs h0 (by omega)).mono ?_
  rintro e w2 ⟨v, L, rfl, hlk⟩
  have LK := Lib.hid hlk
  have HL2 : Hid (Lb w2 w.heap.size h.g a n size (.slice none 0 0) (.slice none 0 0) frm 0) := HL.out.later (LK.out.below)
  have HG2 := Lib.hid (HG.out.later LK.out.below)
  have HQ2 := Lib.hid (HQ.out.trans (LK.out.below.mono HQ.out.size))
  have HFS := Lib.hid LK.out.fs
  have HALL := Lib.hid LK.out.all
  obtain ⟨Av, cv, rfl, hlv, hcv, hAv⟩ := hlk.fs.at
  have HAV := Lib.hid hAv
  have hLn := LK.out.len
  clear hlk hAv LK HL HG HQ hw1 hw2
  go_wp2_with fail
  generalize ((w.alloc _).alloc _) = wx at *
  obtain ⟨m, hm⟩ : ∃ m, (frm + 1) % U64 = m := ⟨_, rfl⟩
  have HM := Lib.hid hm
  have hwr : IntKind.u64.wrap ((frm : Int) + 1) = (m : Int) := by have := u64_add frm 1; rw [hm] at this; simpa using this
  clear hm
  go_loopw [15, 58] (fun fv kv wr => ∃ (i : Nat) (r : Int), fv = .int .i64 r ∧ kv = .int .i64 (i : Int) ∧ i ≤ L.length ∧ Hid (FirstAt L (wPick frm ((L.map Prod.fst).take i) none) r) ∧ Hid (Below w2.heap.size w2 wr)) (fun _ kv _ => L.length - (intOf kv).toNat)
  case atStart => exact ⟨0, -1, rfl, rfl, Nat.zero_le _, .inl ⟨rfl, rfl⟩, Below.refl _ _⟩
  case round =>
    obtain ⟨i, r, rfl, rfl, hi, FA, BL⟩ := hrel
    by_cases hlt : i < L.length
    · skip
      obtain ⟨b, o, rfl, hbl, hkb, hcell⟩ := HAV.out (by omega)
      obtain ⟨k0, k1, k2, k3⟩ := hcell i hlt
      have x0 := (BL.out.cell (p := ⟨b, o + i * 4, none⟩) hbl).trans k0
      have x1 := (BL.out.cell (p := ⟨b, o + i * 4 + 1, none⟩) hbl).trans k1
      have x2 := (BL.out.cell (p := ⟨b, o + i * 4 + 2, none⟩) hbl).trans k2
      have x3 := (BL.out.cell (p := ⟨b, o + i * 4 + 3, none⟩) hbl).trans k3
      have HC := Lib.hid hcell
      have HPK := Lib.hid (wPick_take (frm := frm) hlt)
      clear hcell k0 k1 k2 k3
      obtain ⟨Ax, cx, hx2, -⟩ := Rr.at (HFS.out.recs _ (List.getElem_mem hlt)).1
      rw [hx2] at x3
      obtain ⟨y, hy⟩ : ∃ y, L[i].1 = y := ⟨_, rfl⟩
      rw [hy] at x0 x1 x2 x3 HPK
      obtain ⟨sm, hsm⟩ : ∃ sm, (y.base + y.recs.length) % U64 = sm := ⟨_, rfl⟩
      have hwq : IntKind.u64.wrap ((y.base : Int) + (y.recs.length : Int)) = (sm : Int) := by rw [u64_add, hsm]
      have HFI : Hid (y.fits frm = (decide (y.base ≤ m) && decide (m ≤ sm))) := by rw [Hid]; unfold Fd.fits; rw [HM.out, hsm]
      have HY := Lib.hid hy
      clear hx2 hsm hy
      go_wp2_with fail
      have BA := Lib.hid (BL.out.trans (((Below.refl wr.heap.size wr).alloc (Nat.le_refl _) (.cells #[.int .i64 (y.at' : Int), .int .u64 (y.base : Int), .int .u64 (y.recs.length : Int), .slice Ax y.recs.length cx] 60)).mono BL.out.size))
      have HB := Lib.hid (Blk.new wr 60 #[.int .i64 (y.at' : Int), .int .u64 (y.base : Int), .int .u64 (y.recs.length : Int), .slice Ax y.recs.length cx])
      have QW := Lib.hid ((Below.refl wr.heap.size wr).alloc (Nat.le_refl _) (.cells #[.int .i64 (y.at' : Int), .int .u64 (y.base : Int), .int .u64 (y.recs.length : Int), .slice Ax y.recs.length cx] 60))
      generalize hwa : wr.alloc _ = wa at *
      clear hwa x0 x1 x2 x3
      have t1 : wa.cell? ⟨wr.heap.size, 1, none⟩ = some (.int .u64 (y.base : Int)) := HB.out.cell 1
      have t2 : wa.cell? ⟨wr.heap.size, 2, none⟩ = some (.int .u64 (y.recs.length : Int)) := HB.out.cell 2
      by_cases hb1 : y.base ≤ m
      · have hb1' : ((y.base : Int)) ≤ (m : Int) := by omega
        by_cases hb2 : m ≤ sm
        · have hb2' : (m : Int) ≤ (sm : Int) := by omega
          have HFT : Hid (y.fits frm = true) := by rw [Hid, HFI.out, decide_eq_true hb1, decide_eq_true hb2]; rfl
          clear hb1 hb2
          rcases FA.out with ⟨hr, hpk⟩ | ⟨j, hj, hr, hpk⟩
          · have HR := Lib.hid hr
            have hrn : r < 0 := by omega
            have FN : Hid (FirstAt L (wPick frm ((L.map Prod.fst).take (i + 1)) none) (i : Int)) := by
              rw [Hid, HPK.out, wBest_yes HFT.out (by rw [hpk]; rfl)]
              exact .inr ⟨i, hlt, rfl, by rw [HY.out]⟩
            clear hr hpk
            refine wp_region_grow_lit (by kernel_rfl) (by kernel_rfl) ?_
            apply Exists.intro
            apply And.intro
            · repeat (first
                | (apply wpGrow_skip rfl
                   intro K hK
                   go_simp
                   refine hK _ ?_
                   clear hK K)
                | (apply wpGrow_is rfl
                   · intro wg hwg _
                     have c1 := cell_later hwg t1
                     have c2 := cell_later hwg t2
                     unfold grows
                     go_simp
                     first
                       | exact grows_value _ _
                   intro K hK
                   go_simp
                   refine hK _ ?_
                   clear hK K))
              refine wpGrow_end (fun wg hwg _ => ?_)
              have BW := Lib.hid (BA.out.trans (hwg.mono BA.out.size))
              clear t1 t2 hwr hwq
              go_wp2_with fail
              go_roundw
              case rel => exact ⟨i + 1, (i:Int), rfl, by go_num, by omega, FN, BW⟩
              case measure => simp [intOf]; omega
            · apply And.intro
              · repeat (first | exact trivial | (refine ⟨Stays.is _, ?_⟩) | (refine ⟨Stays.bs _, ?_⟩) | (refine ⟨Stays.pg _ _ _, ?_⟩))
              · rfl
          · subst hr
            have j1 := (BL.out.cell (p := ⟨b, o + j * 4 + 1, none⟩) hbl).trans (HC.out j hj).2.1
            obtain ⟨z, hz⟩ : ∃ z, L[j].1 = z := ⟨_, rfl⟩
            rw [hz] at j1 hpk
            have HZ := Lib.hid hz
            have HPZ := Lib.hid hpk
            have HJ := Lib.hid hj
            have j2 := cell_later QW.out j1
            clear hz hpk j1
            by_cases hzy : z.base < y.base
            · have FN : Hid (FirstAt L (wPick frm ((L.map Prod.fst).take (i + 1)) none) (i : Int)) := by
                rw [Hid, HPK.out, wBest_yes HFT.out (by rw [HPZ.out]; simp [betterB, hzy])]
                exact .inr ⟨i, hlt, rfl, by rw [HY.out]⟩
              refine wp_region_grow_lit (by kernel_rfl) (by kernel_rfl) ?_
              apply Exists.intro
              apply And.intro
              · repeat (first
                  | (apply wpGrow_skip rfl
                     intro K hK
                     go_simp
                     refine hK _ ?_
                     clear hK K)
                  | (apply wpGrow_is rfl
                     · intro wg hwg _
                       have c1 := cell_later hwg t1
                       have c2 := cell_later hwg t2
                       have c3 := cell_later hwg j2
                       unfold grows
                       go_simp
                       first
                         | exact grows_value _ _
                     intro K hK
                     go_simp
                     refine hK _ ?_
                     clear hK K))
                refine wpGrow_end (fun wg hwg _ => ?_)
                have BW := Lib.hid (BA.out.trans (hwg.mono BA.out.size))
                clear t1 t2 j2 hwr hwq
                go_wp2_with fail
                go_roundw
                case rel => exact ⟨i + 1, (i:Int), rfl, by go_num, by omega, FN, BW⟩
                case measure => simp [intOf]; omega
              · apply And.intro
                · repeat (first | exact trivial | (refine ⟨Stays.is _, ?_⟩) | (refine ⟨Stays.bs _, ?_⟩) | (refine ⟨Stays.pg _ _ _, ?_⟩))
                · rfl
            · have FN : Hid (FirstAt L (wPick frm ((L.map Prod.fst).take (i + 1)) none) (j : Int)) := by
                rw [Hid, HPK.out, wBest_less (by rw [HPZ.out]; simp [betterB]; omega)]
                exact .inr ⟨j, HJ.out, rfl, by rw [HZ.out]; exact HPZ.out⟩
              have hzy' : decide (z.base < y.base) = false := by simp; omega
              clear hzy
              refine wp_region_grow_lit (by kernel_rfl) (by kernel_rfl) ?_
              apply Exists.intro
              apply And.intro
              · repeat (first
                  | (apply wpGrow_skip rfl
                     intro K hK
                     go_simp
                     refine hK _ ?_
                     clear hK K)
                  | (apply wpGrow_is rfl
                     · intro wg hwg _
                       have c1 := cell_later hwg t1
                       have c2 := cell_later hwg t2
                       have c3 := cell_later hwg j2
                       unfold grows
                       go_simp
                       first
                         | exact grows_value _ _
                     intro K hK
                     go_simp
                     refine hK _ ?_
                     clear hK K))
                refine wpGrow_end (fun wg hwg _ => ?_)
                have BW := Lib.hid (BA.out.trans (hwg.mono BA.out.size))
                clear t1 t2 j2 hwr hwq
                go_wp2_with fail
                go_roundw
                case rel => exact ⟨i + 1, (j:Int), rfl, by go_num, by omega, FN, BW⟩
                case measure => simp [intOf]; omega
              · apply And.intro
                · repeat (first | exact trivial | (refine ⟨Stays.is _, ?_⟩) | (refine ⟨Stays.bs _, ?_⟩) | (refine ⟨Stays.pg _ _ _, ?_⟩))
                · rfl
        · have hb2' : decide (m ≤ sm) = false := by simp; omega
          have FN : Hid (FirstAt L (wPick frm ((L.map Prod.fst).take (i + 1)) none) r) := by
            rw [Hid, HPK.out, wBest_no (by rw [HFI.out, decide_eq_false hb2, Bool.and_false])]
            exact FA.out
          clear hb1 hb2
          refine wp_region_grow_lit (by kernel_rfl) (by kernel_rfl) ?_
          apply Exists.intro
          apply And.intro
          · repeat (first
              | (apply wpGrow_skip rfl
                 intro K hK
                 go_simp
                 refine hK _ ?_
                 clear hK K)
              | (apply wpGrow_is rfl
                 · intro wg hwg _
                   have c1 := cell_later hwg t1
                   have c2 := cell_later hwg t2
                   unfold grows
                   go_simp
                   first
                     | exact grows_value _ _
                 intro K hK
                 go_simp
                 refine hK _ ?_
                 clear hK K))
            refine wpGrow_end (fun wg hwg _ => ?_)
            have BW := Lib.hid (BA.out.trans (hwg.mono BA.out.size))
            clear t1 t2 hwr hwq
            go_wp2_with fail
            go_roundw
            case rel => exact ⟨i + 1, r, rfl, by go_num, by omega, FN, BW⟩
            case measure => simp [intOf]; omega
          · apply And.intro
            · repeat (first | exact trivial | (refine ⟨Stays.is _, ?_⟩) | (refine ⟨Stays.bs _, ?_⟩) | (refine ⟨Stays.pg _ _ _, ?_⟩))
            · rfl
      · have hb1' : decide (y.base ≤ m) = false := by simp; omega
        have FN : Hid (FirstAt L (wPick frm ((L.map Prod.fst).take (i + 1)) none) r) := by
          rw [Hid, HPK.out, wBest_no (by rw [HFI.out, decide_eq_false hb1, Bool.false_and])]
          exact FA.out
        clear hb1
        refine wp_region_grow_lit (by kernel_rfl) (by kernel_rfl) ?_
        apply Exists.intro
        apply And.intro
        · repeat (first
            | (apply wpGrow_skip rfl
               intro K hK
               go_simp
               refine hK _ ?_
               clear hK K)
            | (apply wpGrow_is rfl
               · intro wg hwg _
                 have c1 := cell_later hwg t1
                 have c2 := cell_later hwg t2
                 unfold grows
                 go_simp
                 first
                   | exact grows_value _ _
               intro K hK
               go_simp
               refine hK _ ?_
               clear hK K))
          refine wpGrow_end (fun wg hwg _ => ?_)
          have BW := Lib.hid (BA.out.trans (hwg.mono BA.out.size))
          clear t1 t2 hwr hwq
          go_wp2_with fail
          go_roundw
          case rel => exact ⟨i + 1, r, rfl, by go_num, by omega, FN, BW⟩
          case measure => simp [intOf]; omega
        · apply And.intro
          · repeat (first | exact trivial | (refine ⟨Stays.is _, ?_⟩) | (refine ⟨Stays.bs _, ?_⟩) | (refine ⟨Stays.pg _ _ _, ?_⟩))
          · rfl
    · obtain rfl : i = L.length := by omega
      have HFA : Hid (FirstAt L (wPick frm (L.map Prod.fst) none) r) := by
        have := FA.out
        rw [List.take_of_length_le (by simp)] at this
        exact this
      have HO : Hid (OpSt w wr wr h.g a n size (.slice none 0 0) [] frm (.slice none 0 0) []) :=
        ⟨HL2.out.later BL.out, HG2.out.later BL.out, World.ownsRow_nil _ _ _ _, SameK.refl _, World.ownsRow_nil _ _ _ _, Nat.le_refl _, Nat.le_trans HQ2.out.size BL.out.size, HQ2.out.trans (BL.out.mono HQ2.out.size)⟩
      have HFS9 := Lib.hid (HFS.out.later BL.out)
      have HLn := Lib.hid hLn
      clear FA BL HL2 HG2 HFS HQ2 HAV hLn
      go_wp2_with fail
      generalize wx.heap.size = bx at *
      obtain ⟨w9, hw9⟩ : ∃ w9, w9 = wr := ⟨_, rfl⟩
      subst hw9
      go_loopg [18, 19] (n + 1) (fun gf ov nv wq => ∃ (r : Int) (live : List Sg) (last : Nat) (out : List Rcd) (nx : Option Fd) (A : Option Addr) (m c : Nat) (Al : Option Addr) (kl cl : Nat), ov = .slice A m c ∧ nv = .int .i64 r ∧ Hid (FirstAt L nx r) ∧ Hid (ChSt (L.map Prod.fst) frm n live last out nx) ∧ Hid (OpSt w w9 wq h.g a n size (.slice Al kl cl) live last (.slice A m c) out) ∧ gf + live.length = n + 1)
      case atStart => exact ⟨r, [], frm, [], _, none, 0, 0, none, 0, 0, rfl, rfl, HFA, ChSt.start HF.out, HO, by simp⟩
      case round =>
        obtain ⟨r2, live, last, out, nx, A, mo, co, Al, kl, cl, rfl, rfl, NA, CH, OS, hgk⟩ := hrel
        clear HFA HO
        rcases NA.out with ⟨hr, hnx⟩ | ⟨j, hj, hr, hnx⟩
        · subst hr hnx
          have CE := Lib.hid CH.out.end
          have g0 : wr.cell? ⟨w.heap.size + 1, 0, none⟩ = some (.pointer (some ⟨w.heap.size, 0, none⟩)) := OS.out.gp.cell 0
          have l2 : wr.cell? ⟨w.heap.size, 2, none⟩ = some (.int .i64 (n : Int)) := OS.out.lb.cell 2
          have DK0 := Lib.hid (HD.out.later OS.out.below)
          have OE0 := Lib.hid OS.out.fin
          go_wp2_with fail
          clear g0 l2 OS NA CH
          go_loopw [118] (fun kv wq => ∃ (k : Nat) (h' : Zn), kv = .int .i64 (k : Int) ∧ k ≤ n ∧ Hid (Dk wq h' (wFreeAll D a size live k)) ∧ Hid (OpE h h' w wq a n size (.slice Al kl cl) live last 0 (.slice A mo co) out)) (fun kv _ => n - (intOf kv).toNat)
          case atStart => exact ⟨0, h, rfl, Nat.zero_le _, DK0, OE0⟩
          case round =>
            obtain ⟨k, h', rfl, hk, DK, OE⟩ := hrel
            clear DK0 OE0
            by_cases hlt : k < n
            · have g0 : wr.cell? ⟨w.heap.size + 1, 0, none⟩ = some (.pointer (some ⟨w.heap.size, 0, none⟩)) := OE.out.gp.cell 0
              have HRG : Hid (Rg3 wr (.slice Al kl cl) live) := KSl.of_own (by omega) OE.out.lown
              go_wp2_with fail
              refine (lgused_any w.heap.size h.g a n size k (.slice Al kl cl) (.slice none 0 0) last 0 live wr OE.out.lb HRG.out).mono ?_
              rintro e w4 ⟨rfl, hb4⟩
              have OE4 := Lib.hid (OE.out.later hb4)
              have DK4 := Lib.hid (DK.out.later hb4)
              have g4 : w4.cell? ⟨w.heap.size + 1, 0, none⟩ = some (.pointer (some ⟨w.heap.size, 0, none⟩)) := OE4.out.gp.cell 0
              clear hb4 OE DK HRG g0
              cases hu : usedL live k with
              | true =>
                have DK5 : Hid (Dk w4 h' (wFreeAll D a size live (k + 1))) := by rw [Hid, wFreeAll, if_pos hu]; exact DK4.out
                clear hu
                go_wp2_with fail
                go_roundw
                case rel => exact ⟨k + 1, h', by go_num, by omega, DK5, OE4⟩
                case measure => simp [intOf]; omega
              | false =>
                have HE : Hid (wFreeAll D a size live (k + 1) = wFree (wFreeAll D a size live k) (a + (k : Int) * size) size) := by rw [Hid, wFreeAll, if_neg (by rw [hu]; simp)]
                have HOK4 := Lib.hid (wFreeAll_ok HOK.out a size live k)
                have HPE : Hid ((wFreeAll D a size live k).pend.length ≤ 900000) := by
                  have h1 := wFreeAll_pend D a size live k
                  have h2 := HP.out
                  have h3 : k * size ≤ 64 * 64 := Nat.mul_le_mul (by omega) hs
                  rw [Hid]
                  omega
                have HLB : Hid (Lb w4 w.heap.size h'.g a n size (.slice Al kl cl) (.slice none 0 0) last 0) := by rw [OE4.out.st.g]; exact OE4.out.lb
                clear hu
                go_wp2_with fail
                refine (lgfree_any h' _ w.heap.size a n size k _ _ last 0 w4 DK4.out HOK4.out HLB.out hs (by omega) h0 (by omega) HPE.out).mono ?_
                rintro e w5 ⟨rfl, h5, hd5, hs5⟩
                have DK5 : Hid (Dk w5 h5 (wFreeAll D a size live (k + 1))) := by rw [Hid, HE.out]; exact hd5
                have OE5 := Lib.hid (OE4.out.step DK4.out hs5)
                clear hd5 hs5
                go_wp2_with fail
                go_roundw
                case rel => exact ⟨k + 1, h5, by go_num, by omega, DK5, OE5⟩
                case measure => simp [intOf]; omega
            · obtain rfl : n = k := by omega
              have OE2 : Hid (OpE h h' w wr.drew a n size (.slice Al kl cl) live last 0 (.slice A mo co) out) := OE.out.later (below_drewN (Below.refl _ _) 1)
              have DK2 := Lib.hid (DK.out.later (below_drewN (Below.refl wr.heap.size wr) 1))
              have g0 : wr.drew.cell? ⟨w.heap.size + 1, 0, none⟩ = some (.pointer (some ⟨w.heap.size, 0, none⟩)) := OE.out.gp.cell 0
              have l6 : wr.drew.cell? ⟨w.heap.size, 6, none⟩ = some (.int .u64 (last : Int)) := OE.out.lb.cell 6
              go_wp2_with fail
              go_still_tail 7, (by kernel_rfl)
              change wpList _ _ _ _ _ wr.drew
              have DK3 : Hid (Dk wr.drew h' (wFreeAll D a size live n)) := DK2.out
              clear OE DK DK2
              generalize wr.drew = w2 at *
              have f6 := OE2.out.lb.free 6
              have HOK4 := Lib.hid (wFreeAll_ok HOK.out a size live n)
              rcases Nat.lt_or_ge last frm with hmx | hmx
              · have hmx3 : max last frm = frm := Nat.max_eq_right (by omega)
                have HMX := Lib.hid hmx3
                clear hmx3
                have OE3 := Lib.hid (OE2.out.put (m := frm) DK3.out)
                go_wp2_with fail
                generalize w2.setCell _ _ = W3 at *
                clear g0 l6 f6 OE2 DK3
                have g0 : W3.cell? ⟨w.heap.size + 1, 0, none⟩ = some (.pointer (some ⟨w.heap.size, 0, none⟩)) := OE3.out.1.gp.cell 0
                have HLB : Hid (Lb W3 w.heap.size h'.g a n size (.slice Al kl cl) (.slice none 0 0) frm 0) := by rw [OE3.out.1.st.g]; exact OE3.out.1.lb
                go_wp2_with fail
                refine (lgsync_any h' _ w.heap.size a n size _ _ frm 0 W3 OE3.out.2 HOK4.out HLB.out).mono ?_
                rintro e w6 ⟨rfl, h6, hd6, hl6, hm6⟩
                rw [OE3.out.1.st.g] at hl6
                have OE6 := Lib.hid (OE3.out.1.sync OE3.out.2 hl6 hm6)
                have DK6 := Lib.hid hd6
                have g6 : w6.cell? ⟨w.heap.size + 1, 0, none⟩ = some (.pointer (some ⟨w.heap.size, 0, none⟩)) := OE6.out.gp.cell 0
                clear hd6 hl6 hm6 g0
                go_wp2_with fail
                go_ret3
                have hD := DK6.out
                have ce := CE.out
                rw [HALL.out] at ce
                refine ⟨w.heap.size, .slice Al kl cl, .slice none 0 0, A, mo, co, h6, rfl, ?_, ?_, ?_, rfl, Nat.le_refl _, ?_, OE6.out.st⟩
                · rw [ow_D ce]; exact hD
                · rw [ow_last ce, ow_synced ce, HMX.out]; exact OE6.out.lb
                · rw [ow_live ce]; exact KSl.of_own (by omega) OE6.out.lown
                · rw [ow_out ce]; exact OE6.out.oown
              · have hmx2 : ¬ last < frm := by omega
                have hmx3 : max last frm = last := Nat.max_eq_left (by omega)
                have HMX := Lib.hid hmx3
                clear hmx hmx3
                have OE3 := Lib.hid (OE2.out.put (m := last) DK3.out)
                go_wp2_with fail
                generalize w2.setCell _ _ = W3 at *
                clear g0 l6 f6 OE2 DK3
                have g0 : W3.cell? ⟨w.heap.size + 1, 0, none⟩ = some (.pointer (some ⟨w.heap.size, 0, none⟩)) := OE3.out.1.gp.cell 0
                have HLB : Hid (Lb W3 w.heap.size h'.g a n size (.slice Al kl cl) (.slice none 0 0) last 0) := by rw [OE3.out.1.st.g]; exact OE3.out.1.lb
                go_wp2_with fail
                refine (lgsync_any h' _ w.heap.size a n size _ _ last 0 W3 OE3.out.2 HOK4.out HLB.out).mono ?_
                rintro e w6 ⟨rfl, h6, hd6, hl6, hm6⟩
                rw [OE3.out.1.st.g] at hl6
                have OE6 := Lib.hid (OE3.out.1.sync OE3.out.2 hl6 hm6)
                have DK6 := Lib.hid hd6
                have g6 : w6.cell? ⟨w.heap.size + 1, 0, none⟩ = some (.pointer (some ⟨w.heap.size, 0, none⟩)) := OE6.out.gp.cell 0
                clear hd6 hl6 hm6 g0
                go_wp2_with fail
                go_ret3
                have hD := DK6.out
                have ce := CE.out
                rw [HALL.out] at ce
                refine ⟨w.heap.size, .slice Al kl cl, .slice none 0 0, A, mo, co, h6, rfl, ?_, ?_, ?_, rfl, Nat.le_refl _, ?_, OE6.out.st⟩
                · rw [ow_D ce]; exact hD
                · rw [ow_last ce, ow_synced ce, HMX.out]; exact OE6.out.lb
                · rw [ow_live ce]; exact KSl.of_own (by omega) OE6.out.lown
                · rw [ow_out ce]; exact OE6.out.oown
        · skip
          subst hr hnx
          have hll := CH.out.len
          have OS2 : Hid (OpSt w w9 wr.drew h.g a n size (.slice Al kl cl) live last (.slice A mo co) out) := OS.out.drew
          have FS2 : Hid (Fs wr.drew bx (.slice Av L.length cv) L) := HFS9.out.same OS2.out.same
          have hat := FS2.out.at
          obtain ⟨Av2, cv2, he2, -, -, hAV2⟩ := hat
          cases he2
          obtain ⟨b, o, hAe, hbl, hkb, hcell⟩ := hAV2 (by omega)
          cases hAe
          obtain ⟨q0, q1, q2, q3⟩ := hcell j hj
          have hmem := List.getElem_mem hj
          obtain ⟨Ay, cy, hrv, -⟩ := Rr.at (FS2.out.recs _ hmem).1
          have HRR := Lib.hid (FS2.out.recs _ hmem)
          rw [hrv] at q3
          have HRR2 : Hid (Rr wr.drew (.slice Ay L[j].1.recs.length cy) L[j].1.recs) := by have := HRR.out.1; rw [hrv] at this; exact this
          have HRL := Lib.hid HRR.out.2
          have g0 : wr.drew.cell? ⟨w.heap.size + 1, 0, none⟩ = some (.pointer (some ⟨w.heap.size, 0, none⟩)) := OS2.out.gp.cell 0
          have hxb : Hid (L[j].1.base < U64) := by
            have hm2 : L[j].1 ∈ L.map Prod.fst := List.mem_map.2 ⟨_, hmem, rfl⟩
            rw [HALL.out] at hm2
            exact wLook_lt (wAll_mem hm2).2
          clear hcell hmem hrv HRR hAV2
          generalize L[j].1 = y at *
          have HTK := Lib.hid (lgtake_any w.heap.size h.g a n size (.slice Al kl cl) (.slice none 0 0) last 0 live y (.slice Ay y.recs.length cy) frm w.heap.size wr.drew OS2.out.lb OS2.out.lown OS2.out.below.size (Nat.le_refl _) HRR2.out (by have := HRL.out; omega) hxb.out (by omega) HF.out)
          have HL1 : Hid (out.length + (tkRecs y frm).length ≤ 10000000) := by
            have h1 := CH.out.out
            have h2 := List.length_filter_le (fun r : Rcd => decide (frm < r.1)) y.recs
            have h3 := HRL.out
            have h4 : live.length * 40000 ≤ 64 * 40000 := Nat.mul_le_mul_right _ (by omega)
            rw [Hid]
            unfold tkRecs
            omega
          have HM1 : Hid (out.length + (tkRecs y frm).length ≤ maxLen) := by have := HL1.out; simp only [Hid, maxLen]; omega
          have HM2 : Hid ((out.length + (tkRecs y frm).length) * 24 ≤ 140737488355328) := by have := HL1.out; rw [Hid]; omega
          go_wp2_with fail
          go_cut [18] (fun ov wx => ∃ (A2 : Option Addr) (k2 c2 : Nat) (A3 : Option Addr) (k3 c3 : Nat), ov = .slice A2 k2 c2 ∧ Hid (OpSt w w9 wx h.g a n size (.slice A3 k3 c3) (live ++ [y.sg]) y.last (.slice A2 k2 c2) (out ++ tkRecs y frm)))
          case first =>
            go_region_law (first
              | (refine step_append_sl _ ⟨0, rfl⟩ rfl (.tmp 102) (.tmp 109) elemRec rfl (own_sameK OS2.out.oown hk3 (by decide)) (Sl.of_own (by omega) hot) rfl rfl (rcs_one _) HM1.out HM2.out (Nat.le_trans OS2.out.size hb3.size) ?_; intro A8 k8 c8 w8 hown8 hg8)
              | (go_simp; go_at_call 18; refine HTK.out.mono ?_; rintro e w3 ⟨At, kt, ct, A', k', c', rfl, hot, hl3, hlo, hb3, hk3⟩))
            all_goals
              have OS8 := OS2.out.next hl3 hlo hb3 hk3 hown8 hg8
              go_wp2_with fail
              go_meet
              exact ⟨A8, k8, c8, A', k', c', rfl, OS8⟩
          obtain ⟨A2, k2, c2, A3, k3, c3, rfl, OS3⟩ := hcut
          have hall : ∀ z ∈ L.map Prod.fst, z.at' < n ∧ z.recs.length ≤ 40000 := fun z hz => by
            refine ⟨?_, ?_⟩
            · rw [HALL.out] at hz
              exact (wAll_mem hz).1
            · obtain ⟨x, hx, rfl⟩ := List.mem_map.1 hz
              exact (HFS9.out.recs x hx).2
          have CH5 : Hid (ChSt (L.map Prod.fst) frm n (live ++ [y.sg]) y.last (out ++ tkRecs y frm) (wNext (L.map Prod.fst) (live ++ [y.sg]) y.last)) := CH.out.next hall
          have FS5 := Lib.hid (HFS9.out.same OS3.out.same)
          have HRG : Hid (Rg3 wc (.slice A3 k3 c3) (live ++ [y.sg])) := KSl.of_own (by omega) OS3.out.lown
          have hmf := run_makeFunc Tryd.prog
          clear hall OS HTK OS2 FS2 g0 q0 q1 q2 q3
          go_wp2_with fail
          refine (fdindex_any bx _ L (w.heap.size + 1) w.heap.size h.g a n size (.slice A3 k3 c3) (.slice none 0 0) y.last 0 (live ++ [y.sg]) wc OS3.out.gp OS3.out.lb HRG.out FS5.out).mono ?_
          rintro e w5 ⟨r5, rfl, hfd, hb5⟩
          have FD5 : Hid (FirstAt L (wNext (L.map Prod.fst) (live ++ [y.sg]) y.last) r5) := hfd
          have OS5 := Lib.hid (OS3.out.later hb5)
          clear hfd hb5 OS3 FS5 HRG
          go_wp2_with fail
          have hln := CH5.out.len
          rw [List.length_append, List.length_singleton] at hln
          go_roundg (gk - 1)
          case measure => omega
          case rel => exact ⟨r5, live ++ [y.sg], y.last, out ++ tkRecs y frm, _, A2, k2, c2, A3, k3, c3, rfl, rfl, FD5, CH5, OS5, by rw [List.length_append, List.length_singleton]; omega⟩
end Go.Proofs.YtojlldalhhibmaaDoor

namespace Go.Proofs.YtojlldalhhibmaaDoor
open Go Go.RowKit
set_option linter.unusedVariables false

theorem sgcs_one (l : List Sg) : ∀ y ∈ sgcs l, y.oneCell' = true := by
  intro y hy
  obtain ⟨s, _, hs⟩ := List.mem_flatMap.1 hy
  exact sgC_one s y hs
set_option maxHeartbeats 1000000 in
set_option maxRecDepth 100000 in
theorem sgclone_any (v0 : Value) (l : List Sg) (w : World) (hl : l.length ≤ 1000000) (hr : Rg3 w v0 l) :
    Calls Tryd.prog 25 #[v0] w fun e w' => ∃ A c, e = .returned (.slice A l.length c) ∧ w'.ownsRow w.heap.size 58 3 (.slice A l.length c) l.length (sgcs l) ∧ Below w.heap.size w w' := by
  have HR := Lib.hid hr
  obtain ⟨_, A, c, rfl, hlc, hcm, hA0, _⟩ := hr
  rcases A with _ | ad
  · obtain rfl : c = 0 := hA0 rfl
    have hl0 : l.length = 0 := by omega
    obtain rfl : l = [] := List.eq_nil_of_length_eq_zero hl0
    have hnil := Lib.run_eql_slice_nil (P := Tryd.prog)
    go_enter Tryd.func25, Tryd.ntmps25
    go_wp2_with fail
    go_ret
    exact ⟨none, 0, rfl, World.ownsRow_nil _ _ _ _, Below.refl _ _⟩
  · have hma : (w.alloc (.cells #[] 58)).ownsRow w.heap.size 58 3 (.slice (some ⟨w.heap.size, 0, none⟩) 0 0) 0 [] := World.ownsRow_made w #[] 0 (Nat.le_refl _) (by simp [maxLen]) (by simp)
    have HA := Lib.hid (KSl.later HR.out ((Below.refl _ _).alloc (Nat.le_refl _) (.cells #[] 58)))
    have hnil := Lib.run_eql_slice_nil (P := Tryd.prog)
    go_enter Tryd.func25, Tryd.ntmps25
    go_wp2_with (at_builtin; refine wpList_append_sl _ rfl (.tmp 5) (.tmp 6) elemSg rfl hma HA.out rfl rfl (sgcs_one _) (by simp only [maxLen]; omega) (by omega) (by simp) ?_; intro A1 k1 c1 w1 hown1 hg1 hat1)
    go_ret
    rw [Nat.zero_add, List.nil_append] at hown1
    obtain rfl := own_len hown1
    exact ⟨A1, c1, rfl, hown1, below_grown_own ((Below.refl _ _).alloc (Nat.le_refl _) _) hma hg1 (by simp)⟩
set_option maxHeartbeats 1000000 in
set_option maxRecDepth 100000 in
theorem bsclone_any (S : Nat → Prop) (v0 : Value) (l : List UInt8) (w : World) (hl : l.length ≤ 1099511627776) (hr : Bs S w v0 l) :
    Calls Tryd.prog 26 #[v0] w fun e w' => ∃ A c, e = .returned (.slice A l.length c) ∧ Ob 5 w' w.heap.size (.slice A l.length c) l ∧ Below w.heap.size w w' := by
  have HR := Lib.hid hr
  obtain ⟨A, c, rfl, hlc, hcm, hA0, _⟩ := hr.at
  rcases A with _ | ad
  · obtain rfl : c = 0 := hA0 rfl
    have hl0 : l.length = 0 := by omega
    obtain rfl : l = [] := List.eq_nil_of_length_eq_zero hl0
    have hnil := Lib.run_eql_slice_nil (P := Tryd.prog)
    go_enter Tryd.func26, Tryd.ntmps26
    go_wp2_with fail
    go_ret
    exact ⟨none, 0, rfl, Ob.nil _ _ _, Below.refl _ _⟩
  · have hma : Ob 5 (w.alloc (.cells #[] 5)) w.heap.size (.slice (some ⟨w.heap.size, 0, none⟩) 0 0) [] := Ob.made _ _ _ (Nat.le_refl _) rfl
    have HA := Lib.hid (Sl.alloc1 HR.out (.cells #[] 5))
    have hnil := Lib.run_eql_slice_nil (P := Tryd.prog)
    go_enter Tryd.func26, Tryd.ntmps26
    go_wp2_with (at_builtin; refine wpList_append_bs _ rfl (.tmp 5) (.tmp 6) elemU8 rfl hma HA.out rfl rfl (by simp; omega) (by simp) ?_; intro A1 k1 c1 w1 hown1 hg1 hat1)
    go_ret
    rw [List.nil_append] at hown1
    obtain rfl := hown1.len
    exact ⟨A1, c1, rfl, hown1, below_grown_own ((Below.refl _ _).alloc (Nat.le_refl _) _) hma hg1 (by simp)⟩
end Go.Proofs.YtojlldalhhibmaaDoor

namespace Go.Proofs.YtojlldalhhibmaaDoor
open Go Go.RowKit
set_option linter.unusedVariables false

theorem wPut_end {D : Dsk} {p : Int} {b : List UInt8} {m k : Nat} (h : ¬ 512 * k < b.length) : wPut D p b m k = (D, 0) := by
  cases m with
  | zero => rfl
  | succ m => rw [wPut, if_neg h]
theorem wPut_go {D : Dsk} {p : Int} {b : List UInt8} {m k : Nat} (h : 512 * k < b.length) (hw : D.why (p + (k : Int)) ((b.drop (512 * k)).take 512) = 0) : wPut D p b (m + 1) k = wPut (D.write (p + (k : Int)) ((b.drop (512 * k)).take 512)) p b m (k + 1) := by
  rw [wPut, if_pos h, if_pos hw]
theorem wPut_stop {D : Dsk} {p : Int} {b : List UInt8} {m k : Nat} (h : 512 * k < b.length) (hw : D.why (p + (k : Int)) ((b.drop (512 * k)).take 512) ≠ 0) : wPut D p b (m + 1) k = (D, D.why (p + (k : Int)) ((b.drop (512 * k)).take 512)) := by
  rw [wPut, if_pos h, if_neg hw]
/-- The bytes ahead of the stop were written; a write that is refused leaves the disk. -/
theorem dwrite_no {D : Dsk} {x : Int} {b : List UInt8} (h : D.why x b ≠ 0) : D.write x b = D := by
  unfold Dsk.write
  rw [if_neg h]
theorem wPut_pend (p : Int) (b : List UInt8) : ∀ (m k : Nat) (D : Dsk), (wPut D p b m k).1.pend.length ≤ D.pend.length + m
  | 0, k, D => by rw [wPut]; simp
  | m + 1, k, D => by
    rw [wPut]
    split
    · split
      · have h1 := wPut_pend p b m (k + 1) (D.write (p + (k : Int)) ((b.drop (512 * k)).take 512))
        have h2 := dwrite_pend D (p + (k : Int)) ((b.drop (512 * k)).take 512)
        omega
      · simp
    · simp
/-- What holds ahead of round k. -/
structure PtSt (h h' : Zn) (w wr : World) (D D' : Dsk) (p : Int) (b : List UInt8) (k0 k m : Nat) : Prop where
  dk : Dk wr h' D'
  ok : D'.Ok
  st : Stp h w h' wr
  eq : wPut D p b b.length k0 = wPut D' p b m k
  fuel : b.length ≤ 512 * (k + m)
  pend : D'.pend.length + k0 ≤ D.pend.length + k
set_option maxHeartbeats 4000000 in
set_option maxRecDepth 100000 in
theorem lgput_any (h : Zn) (D : Dsk) (gl : Nat) (a : Int) (n size i frm : Nat) (lv sv : Value) (last synced : Nat) (v0 : Value) (b : List UInt8) (w : World) (hd : Dk w h D) (hok : D.Ok) (hl : Lb w gl h.g a n size lv sv last synced) (hs : size ≤ 64) (hi : i ≤ 64) (h0 : 0 ≤ a) (h1 : a ≤ 65536) (hp : D.pend.length ≤ 900000)
    (hb : Ub w 0 v0 b) (hbl : b.length ≤ 40000) (hf : frm ≤ b.length) :
    Calls Tryd.prog 27 #[.pointer (some ⟨gl, 0, none⟩), .int .i64 (i : Int), .int .i64 (frm : Int), v0] w fun e w' => e = .returned (.int .i64 ((wPut D (a + (i : Int) * size) b b.length (frm / 512)).2 : Int)) ∧ ∃ h', Dk w' h' (wPut D (a + (i : Int) * size) b b.length (frm / 512)).1 ∧ Stp h w h' w' := by
  have HD := Lib.hid hd
  have HOK := Lib.hid hok
  have HL := Lib.hid hl
  have HB := Lib.hid hb
  have hmul := seg_mul hi hs
  have hpp : Hid (D.pend.length ≤ 900000) := hp
  obtain ⟨A0, c0, rfl, hlc, hcm, -, -⟩ := hb.bs.at
  have hq : (frm : Int).tdiv 512 = ((frm / 512 : Nat) : Int) := (Int.ofNat_tdiv frm 512).symm
  have hk0 : frm / 512 ≤ 100 := by omega
  obtain ⟨k0, hk9⟩ : ∃ k0, frm / 512 = k0 := ⟨_, rfl⟩
  rw [hk9] at hq hk0 ⊢
  clear hd hok hl hb hp hk9
  go_enter Tryd.func27, Tryd.ntmps27
  go_wp2_with fail
  go_loopw [9] (fun kv wr => ∃ (k m : Nat) (D' : Dsk) (h' : Zn), kv = .int .i64 (k : Int) ∧ k ≤ 100 ∧ Hid (PtSt h h' w wr D D' (a + (i : Int) * size) b k0 k m)) (fun kv _ => 200 - (intOf kv).toNat)
  case atStart => exact ⟨k0, b.length, D, h, by first | rfl | (rw [hq]), hk0, HD.out, HOK.out, Stp.refl _ _, rfl, by omega, by omega⟩
  case round =>
    obtain ⟨k, m, D', h', rfl, hk, PT⟩ := hrel
    obtain ⟨lo, hlo⟩ : ∃ lo, 512 * k = lo := ⟨_, rfl⟩
    have hw1 : IntKind.i64.wrap ((k : Int) * 512) = (lo : Int) := by rw [i64_in (by omega) (by omega)]; omega
    have hw2 : (k : Int) * 512 = (lo : Int) := by omega
    have hw8 : IntKind.i64.wrap (lo : Int) = (lo : Int) := i64_in (by omega) (by omega)
    by_cases hlt : lo < b.length
    · have LR := Lib.hid (PT.out.st.lb HD.out HL.out)
      have BR := Lib.hid (PT.out.st.ub HD.out HB.out)
      obtain ⟨_, A', c', he, _, _, _, hA⟩ := HB.out
      cases he
      obtain ⟨bb, ob, rfl, -, -⟩ := hA (by omega)
      clear hA
      have HLO := Lib.hid hlo
      have hi1 : (lo : Int) < (b.length : Int) := by omega
      have hi2 : ¬ c0 = lo := by omega
      obtain ⟨hj, hhj⟩ : ∃ hj, lo + 512 = hj := ⟨_, rfl⟩
      have hw3 : ((k : Int) + 1) * 512 = (hj : Int) := by omega
      have hw4 : IntKind.i64.wrap (((k : Int) + 1) * 512) = (hj : Int) := by rw [i64_in (by omega) (by omega)]; omega
      have hw5 : IntKind.i64.wrap ((i : Int) * size) = (i : Int) * size := i64_in (by omega) (by omega)
      have hw6 : IntKind.i64.wrap (a + (i : Int) * size) = a + (i : Int) * size := i64_in (by omega) (by omega)
      have hw7 : IntKind.i64.wrap (a + (i : Int) * size + k) = a + (i : Int) * size + k := i64_in (by omega) (by omega)
      have l0 : wr.drew.cell? ⟨gl, 0, none⟩ = some (.pointer (some ⟨h.g, 0, none⟩)) := LR.out.cell 0
      have l1 : wr.drew.cell? ⟨gl, 1, none⟩ = some (.int .i64 a) := LR.out.cell 1
      have l3 : wr.drew.cell? ⟨gl, 3, none⟩ = some (.int .i64 (size : Int)) := LR.out.cell 3
      have HJ := Lib.hid hhj
      clear hlo
      by_cases hbe : b.length < hj
      · have i4 : (b.length : Int) < (hj : Int) := by omega
        have hch : Hid ((b.drop lo).take (b.length - lo) = (b.drop (512 * k)).take 512) := by
          rw [Hid, HLO.out]
          have := HJ.out
          by_cases h9 : b.length - lo = 512
          · rw [h9]
          · rw [List.take_of_length_le (by rw [List.length_drop]; omega), List.take_of_length_le (by rw [List.length_drop]; omega)]
        have i5 : (lo : Int) ≤ (b.length : Int) := by omega
        have i6 : (b.length : Int) ≤ (c0 : Int) := by omega
        go_wp2_with fail
        go_still_tail 22, (by kernel_rfl)
        change wpList _ _ _ _ _ wr.drew
        have D2 := Lib.hid (PT.out.dk.later (below_drewN (Below.refl wr.heap.size wr) 1))
        have B2 := Lib.hid (BR.out.later (below_drewN (Below.refl wr.heap.size wr) 1))
        have S2 := Lib.hid (PT.out.st.trans (Stp.below (below_drewN (Below.refl wr.heap.size wr) 1)))
        have hg' : h.g = h'.g := S2.out.g.symm
        have hbs : Bs (UbS wr.drew 0) wr.drew (.slice (some ⟨bb, ob + lo, none⟩) (b.length - lo) (c0 - lo)) ((b.drop lo).take (b.length - lo)) := by
          have h9 := Bs.cut (k := lo) B2.out (by omega)
          rw [if_neg hi2, ← List.length_drop] at h9
          exact Bs.pre h9 (by rw [List.length_drop]; omega)
        rw [hch.out] at hbs
        have HBS := Lib.hid hbs
        have hck : ((b.drop (512 * k)).take 512).length ≤ 512 := by rw [List.length_take]; omega
        have hwo := dwrite_pend D' (a + (i : Int) * size + k) ((b.drop (512 * k)).take 512)
        obtain ⟨m, rfl⟩ : ∃ j, m = j + 1 := ⟨m - 1, by have := PT.out.fuel; have := HLO.out; omega⟩
        have hgo := Lib.hid (@wPut_go D' (a + (i : Int) * size) b m k (by have := HLO.out; omega))
        have hno := Lib.hid (@wPut_stop D' (a + (i : Int) * size) b m k (by have := HLO.out; omega))
        have hnw := Lib.hid (@dwrite_no D' (a + (i : Int) * size + k) ((b.drop (512 * k)).take 512))
        clear hbs hw1 hw2 hw3 hw4 hw5 hw6 hw7 hw8 l1 l3
        generalize (b.drop (512 * k)).take 512 = ch at *
        rw [hg'] at *
        go_wp2_with fail
        refine (dwrite_any h' D' (a + (i : Int) * size + k) _ _ ch wr.drew D2.out PT.out.ok (by unfold InI; omega) HBS.out (by omega) (by have := PT.out.pend; have := hpp.out; omega)).mono ?_
        rintro e w4 ⟨rfl, h4, hd4, hs4⟩
        obtain ⟨y, hy⟩ : ∃ y, D'.why (a + (i : Int) * size + k) ch = y := ⟨_, rfl⟩
        rw [hy]
        by_cases hy0 : y = 0
        · subst hy0
          have PT4 : Hid (PtSt h h4 w w4 D (D'.write (a + (i : Int) * size + k) ch) (a + (i : Int) * size) b k0 (k + 1) m) :=
            ⟨hd4, PT.out.ok.write _ _, S2.out.trans hs4, PT.out.eq.trans (hgo.out hy), by have := PT.out.fuel; omega, by have := PT.out.pend; omega⟩
          have hlk : k < 100 := by have := HLO.out; omega
          clear hy hd4 hs4 hwo
          go_wp2_with fail
          go_roundw
          case rel => exact ⟨k + 1, m, _, h4, by go_num, by omega, PT4⟩
          case measure => simp [intOf]; omega
        · have hy1 : ¬ ((y : Int) = 0) := by omega
          have hy2 : ((y : Int) == 0) = false := by rw [beq_eq_false_iff_ne]; omega
          have HY0 := Lib.hid hy0
          have HY := Lib.hid hy
          have D4 := Lib.hid hd4
          have S4 := Lib.hid (S2.out.trans hs4)
          clear hy0 hy hd4 hs4 hwo
          go_wp2_with fail
          go_ret
          have e1 := PT.out.eq.trans (hno.out (by rw [HY.out]; exact HY0.out))
          rw [HY.out] at e1
          rw [e1]
          refine ⟨rfl, h4, ?_, S4.out⟩
          have := D4.out
          rw [hnw.out (by rw [HY.out]; exact HY0.out)] at this
          exact this
      · have i4 : ¬ (b.length : Int) < (hj : Int) := by omega
        have hch : Hid ((b.drop lo).take (hj - lo) = (b.drop (512 * k)).take 512) := by
          rw [Hid, HLO.out]
          have := HJ.out
          by_cases h9 : hj - lo = 512
          · rw [h9]
          · rw [List.take_of_length_le (by rw [List.length_drop]; omega), List.take_of_length_le (by rw [List.length_drop]; omega)]
        have i5 : (lo : Int) ≤ (hj : Int) := by omega
        have i6 : (hj : Int) ≤ (c0 : Int) := by omega
        go_wp2_with fail
        go_still_tail 22, (by kernel_rfl)
        change wpList _ _ _ _ _ wr.drew
        have D2 := Lib.hid (PT.out.dk.later (below_drewN (Below.refl wr.heap.size wr) 1))
        have B2 := Lib.hid (BR.out.later (below_drewN (Below.refl wr.heap.size wr) 1))
        have S2 := Lib.hid (PT.out.st.trans (Stp.below (below_drewN (Below.refl wr.heap.size wr) 1)))
        have hg' : h.g = h'.g := S2.out.g.symm
        have hbs : Bs (UbS wr.drew 0) wr.drew (.slice (some ⟨bb, ob + lo, none⟩) (hj - lo) (c0 - lo)) ((b.drop lo).take (hj - lo)) := by
          have h9 := Bs.cut (k := lo) B2.out (by omega)
          rw [if_neg hi2, ← List.length_drop] at h9
          exact Bs.pre h9 (by rw [List.length_drop]; omega)
        rw [hch.out] at hbs
        have HBS := Lib.hid hbs
        have hck : ((b.drop (512 * k)).take 512).length ≤ 512 := by rw [List.length_take]; omega
        have hwo := dwrite_pend D' (a + (i : Int) * size + k) ((b.drop (512 * k)).take 512)
        obtain ⟨m, rfl⟩ : ∃ j, m = j + 1 := ⟨m - 1, by have := PT.out.fuel; have := HLO.out; omega⟩
        have hgo := Lib.hid (@wPut_go D' (a + (i : Int) * size) b m k (by have := HLO.out; omega))
        have hno := Lib.hid (@wPut_stop D' (a + (i : Int) * size) b m k (by have := HLO.out; omega))
        have hnw := Lib.hid (@dwrite_no D' (a + (i : Int) * size + k) ((b.drop (512 * k)).take 512))
        clear hbs hw1 hw2 hw3 hw4 hw5 hw6 hw7 hw8 l1 l3
        generalize (b.drop (512 * k)).take 512 = ch at *
        rw [hg'] at *
        go_wp2_with fail
        refine (dwrite_any h' D' (a + (i : Int) * size + k) _ _ ch wr.drew D2.out PT.out.ok (by unfold InI; omega) HBS.out (by omega) (by have := PT.out.pend; have := hpp.out; omega)).mono ?_
        rintro e w4 ⟨rfl, h4, hd4, hs4⟩
        obtain ⟨y, hy⟩ : ∃ y, D'.why (a + (i : Int) * size + k) ch = y := ⟨_, rfl⟩
        rw [hy]
        by_cases hy0 : y = 0
        · subst hy0
          have PT4 : Hid (PtSt h h4 w w4 D (D'.write (a + (i : Int) * size + k) ch) (a + (i : Int) * size) b k0 (k + 1) m) :=
            ⟨hd4, PT.out.ok.write _ _, S2.out.trans hs4, PT.out.eq.trans (hgo.out hy), by have := PT.out.fuel; omega, by have := PT.out.pend; omega⟩
          have hlk : k < 100 := by have := HLO.out; omega
          clear hy hd4 hs4 hwo
          go_wp2_with fail
          go_roundw
          case rel => exact ⟨k + 1, m, _, h4, by go_num, by omega, PT4⟩
          case measure => simp [intOf]; omega
        · have hy1 : ¬ ((y : Int) = 0) := by omega
          have hy2 : ((y : Int) == 0) = false := by rw [beq_eq_false_iff_ne]; omega
          have HY0 := Lib.hid hy0
          have HY := Lib.hid hy
          have D4 := Lib.hid hd4
          have S4 := Lib.hid (S2.out.trans hs4)
          clear hy0 hy hd4 hs4 hwo
          go_wp2_with fail
          go_ret
          have e1 := PT.out.eq.trans (hno.out (by rw [HY.out]; exact HY0.out))
          rw [HY.out] at e1
          rw [e1]
          refine ⟨rfl, h4, ?_, S4.out⟩
          have := D4.out
          rw [hnw.out (by rw [HY.out]; exact HY0.out)] at this
          exact this
    · have hfin : Hid (wPut D' (a + (i : Int) * size) b m k = (D', 0)) := wPut_end (by omega)
      clear hlo
      go_wp2_with fail
      go_ret
      have e1 := PT.out.eq
      rw [hfin.out] at e1
      rw [e1]
      exact ⟨rfl, h', PT.out.dk, PT.out.st⟩
end Go.Proofs.YtojlldalhhibmaaDoor

namespace Go.Proofs.YtojlldalhhibmaaDoor
open Go
set_option linter.unusedVariables false

/-- What a log keeps to. -/
structure Wl.Ok (l : Wl) : Prop where
  dok : l.D.Ok
  n2 : 2 ≤ l.n
  n64 : l.n ≤ 64
  s1 : 1 ≤ l.size
  s64 : l.size ≤ 64
  a0 : 0 ≤ l.a
  a1 : l.a + (l.n : Int) * l.size ≤ 65536
  last : l.last < U64
  synced : l.synced < U64
  nd : (l.live.map (·.at')).Nodup
  lt : ∀ s ∈ l.live, s.at' < l.n
  str : l.stream ≠ [] → l.live ≠ []
  slen : l.stream.length ≤ 512 * l.size
theorem Wl.Ok.len {l : Wl} (h : l.Ok) : l.live.length ≤ l.n := by
  have := nodup_len l.n (l.live.map (·.at')) h.nd (fun x hx => by
    obtain ⟨y, hy, rfl⟩ := List.mem_map.1 hx
    exact h.lt y hy)
  simpa using this
theorem Wl.Ok.am {l : Wl} (h : l.Ok) : l.a ≤ 65536 := by
  have := h.a1
  have h2 : (0 : Int) ≤ (l.n : Int) * l.size := Int.mul_nonneg (by omega) (by omega)
  omega

theorem bumpL_at : ∀ (l : List Sg), (bumpL l).map (·.at') = l.map (·.at')
  | [] => rfl
  | [s] => rfl
  | s :: t :: r => by
    have := bumpL_at (t :: r)
    simp only [bumpL, List.map_cons] at this ⊢
    rw [this]
theorem bumpL_snoc (s : Sg) : ∀ (l : List Sg), bumpL (l ++ [s]) = l ++ [{ s with count := (s.count + 1) % U64 }]
  | [] => rfl
  | [t] => rfl
  | t :: u :: r => by
    have := bumpL_snoc s (u :: r)
    simp only [List.cons_append, bumpL] at this ⊢
    rw [this]
theorem usedL_bump (l : List Sg) (i : Nat) : usedL (bumpL l) i = usedL l i := by
  have h : ∀ l : List Sg, usedL l i = (l.map (·.at')).any (· == i) := fun l => by
    unfold usedL
    rw [List.any_map]
    rfl
  rw [h, h, bumpL_at]
theorem wFresh_some {live : List Sg} {n i : Nat} (h : wFresh live n = some i) : i < n ∧ usedL live i = false := by
  unfold wFresh at h
  have h1 := List.find?_some h
  have h2 := List.mem_of_find?_eq_some h
  exact ⟨List.mem_range.1 h2, by simpa using h1⟩
/-- The search goes on from i. -/
theorem wFresh_at {live : List Sg} {n i : Nat} (hi : i < n) (hb : ∀ j, j < i → usedL live j = true) (hu : usedL live i = false) : wFresh live n = some i := by
  unfold wFresh
  rw [List.find?_range_eq_some]
  exact ⟨by simp [hu], List.mem_range.2 hi, fun j hj => by simp [hb j hj]⟩
theorem wFresh_none {live : List Sg} {n : Nat} (hb : ∀ j, j < n → usedL live j = true) : wFresh live n = none := by
  unfold wFresh
  rw [List.find?_eq_none]
  intro x hx
  simp [hb x (List.mem_range.1 hx)]

/-- To which segment a record of b bytes goes: what is in use then, the segment's bytes so far, where it is, whether it is a new one. -/
structure ApC (l : Wl) (q : Nat) (head b : List UInt8) (L : List Sg) (s : List UInt8) (i : Nat) (fr : Bool) : Prop where
  fresh : fr = true → (l.stream = [] ∨ 512 * l.size < l.stream.length + b.length) ∧ wFresh l.live l.n = some i ∧ L = l.live ++ [⟨i, q, 0⟩] ∧ s = head
  old : fr = false → ¬ (l.stream = [] ∨ 512 * l.size < l.stream.length + b.length) ∧ L = l.live ∧ s = l.stream ∧ ((l.live.getLast?).map (·.at')).getD 0 = i
def apFrom (l : Wl) (fr : Bool) : Nat := if fr then 0 else l.stream.length
section
variable {l : Wl} {q : Nat} {t head b : List UInt8} {L : List Sg} {s : List UInt8} {i : Nat} {fr : Bool}
/-- What becomes of it. -/
theorem wAppend_ok (hq : q = (l.last + 1) % U64) (hh : head = recB q titleB) (hb : b = recB q t) (ht : ¬ (32768 < t.length ∨ 512 * l.size < head.length + b.length)) (c : ApC l q head b L s i fr)
    {r : Dsk × Nat} (hr : wPut l.D (l.a + (i : Int) * l.size) (s ++ b) (s ++ b).length (apFrom l fr / 512) = r) (h0 : r.2 = 0) :
    wAppend l t = ({ l with D := r.1, live := bumpL L, stream := s ++ b, last := q }, q, 0) := by
  subst hq hh hb
  unfold wAppend
  rw [if_neg ht]
  cases fr with
  | true =>
    obtain ⟨h1, h2, rfl, rfl⟩ := c.fresh rfl
    rw [if_pos h1, h2]
    simp only [apFrom, if_true, Nat.zero_div] at hr
    simp only [hr, h0, if_true]
  | false =>
    obtain ⟨h1, rfl, rfl, h4⟩ := c.old rfl
    rw [if_neg h1]
    simp only [apFrom, Bool.false_eq_true, if_false] at hr
    simp only [h4, hr, h0, if_true]
theorem wAppend_no (hq : q = (l.last + 1) % U64) (hh : head = recB q titleB) (hb : b = recB q t) (ht : ¬ (32768 < t.length ∨ 512 * l.size < head.length + b.length)) (c : ApC l q head b L s i fr)
    {r : Dsk × Nat} (hr : wPut l.D (l.a + (i : Int) * l.size) (s ++ b) (s ++ b).length (apFrom l fr / 512) = r) (h0 : r.2 ≠ 0) :
    wAppend l t = (if fr then (({ l with D := wFree r.1 (l.a + (i : Int) * l.size) l.size, stream := [] } : Wl).sync, 0, r.2) else ({ l with D := r.1, stream := [] }, 0, r.2)) := by
  subst hq hh hb
  unfold wAppend
  rw [if_neg ht]
  cases fr with
  | true =>
    obtain ⟨h1, h2, rfl, rfl⟩ := c.fresh rfl
    rw [if_pos h1, h2]
    simp only [apFrom, if_true, Nat.zero_div] at hr
    simp only [hr, h0, if_true, if_false]
  | false =>
    obtain ⟨h1, rfl, rfl, h4⟩ := c.old rfl
    rw [if_neg h1]
    simp only [apFrom, Bool.false_eq_true, if_false] at hr
    simp only [h4, hr, h0, if_false, Bool.false_eq_true]
theorem ApC.lens (c : ApC l q head b L s i fr) (ok : l.Ok) (ht : ¬ (32768 < t.length ∨ 512 * l.size < head.length + b.length)) :
    (s ++ b).length ≤ 512 * l.size ∧ i < l.n ∧ apFrom l fr ≤ (s ++ b).length ∧ usedL l.live i = !fr ∧ L.length ≤ l.n := by
  cases fr with
  | true =>
    obtain ⟨h1, h2, rfl, rfl⟩ := c.fresh rfl
    have h3 := wFresh_some h2
    refine ⟨by rw [List.length_append]; omega, h3.1, by simp [apFrom], h3.2, ?_⟩
    have hnd : ((l.live ++ [(⟨i, q, 0⟩ : Sg)]).map (fun s : Sg => s.at')).Nodup := by
      rw [List.map_append, List.nodup_append]
      refine ⟨ok.nd, by simp, fun x hx y hy e9 => ?_⟩
      simp only [List.map_cons, List.map_nil, List.mem_singleton] at hy
      obtain ⟨z, hz, e⟩ := List.mem_map.1 hx
      have : usedL l.live i = true := usedL_iff.2 ⟨z, hz, (e.trans e9).trans hy⟩
      rw [h3.2] at this
      cases this
    have := nodup_len l.n _ hnd (fun x hx => by
      rw [List.map_append, List.mem_append] at hx
      rcases hx with hx | hx
      · obtain ⟨z, hz, rfl⟩ := List.mem_map.1 hx
        exact ok.lt z hz
      · simp only [List.map_cons, List.map_nil, List.mem_singleton] at hx
        rw [hx]; exact h3.1)
    simpa using this
  | false =>
    obtain ⟨h1, rfl, rfl, h4⟩ := c.old rfl
    have hne : l.live ≠ [] := ok.str (fun e => h1 (.inl e))
    have hm := List.getLast_mem hne
    rw [List.getLast?_eq_some_getLast hne] at h4
    simp only [Option.map_some, Option.getD_some] at h4
    subst h4
    refine ⟨by rw [List.length_append]; omega, ok.lt _ hm, by simp [apFrom], ?_, ok.len⟩
    simp only [Bool.not_false]
    exact usedL_iff.2 ⟨_, hm, rfl⟩
theorem ApC.ne (c : ApC l q head b L s i fr) (ok : l.Ok) : ∃ L0 s0, L = L0 ++ [s0] ∧ s0.at' = i := by
  cases fr with
  | true =>
    obtain ⟨h1, h2, rfl, rfl⟩ := c.fresh rfl
    exact ⟨_, _, rfl, rfl⟩
  | false =>
    obtain ⟨h1, rfl, rfl, h4⟩ := c.old rfl
    have hne : l.live ≠ [] := ok.str (fun e => h1 (.inl e))
    rw [List.getLast?_eq_some_getLast hne] at h4
    simp only [Option.map_some, Option.getD_some] at h4
    exact ⟨_, _, (List.dropLast_concat_getLast hne).symm, h4⟩
theorem ApC.ok (c : ApC l q head b L s i fr) (ok : l.Ok) (hq : q < U64) (ht : ¬ (32768 < t.length ∨ 512 * l.size < head.length + b.length)) {D : Dsk} (hD : D.Ok) : ({ l with D := D, live := bumpL L, stream := s ++ b, last := q } : Wl).Ok := by
  have hl := c.lens (t := t) ok ht
  have hin : (L.map (·.at')).Nodup ∧ ∀ x ∈ L, x.at' < l.n := by
    cases fr with
    | true =>
      obtain ⟨h1, h2, rfl, rfl⟩ := c.fresh rfl
      have h3 := wFresh_some h2
      refine ⟨?_, fun x hx => ?_⟩
      · rw [List.map_append, List.nodup_append]
        refine ⟨ok.nd, by simp, fun x hx y hy e9 => ?_⟩
        simp only [List.map_cons, List.map_nil, List.mem_singleton] at hy
        obtain ⟨z, hz, e⟩ := List.mem_map.1 hx
        have : usedL l.live i = true := usedL_iff.2 ⟨z, hz, (e.trans e9).trans hy⟩
        rw [h3.2] at this
        cases this
      · rw [List.mem_append, List.mem_singleton] at hx
        rcases hx with hx | rfl
        · exact ok.lt x hx
        · exact h3.1
    | false =>
      obtain ⟨h1, rfl, rfl, h4⟩ := c.old rfl
      exact ⟨ok.nd, ok.lt⟩
  refine ⟨hD, ok.n2, ok.n64, ok.s1, ok.s64, ok.a0, ok.a1, hq, ok.synced, by rw [bumpL_at]; exact hin.1, fun x hx => ?_, fun _ e => ?_, hl.1⟩
  · have : x.at' ∈ (bumpL L).map (·.at') := List.mem_map.2 ⟨x, hx, rfl⟩
    rw [bumpL_at] at this
    obtain ⟨z, hz, e⟩ := List.mem_map.1 this
    rw [← e]
    exact hin.2 z hz
  · obtain ⟨L0, s0, rfl, _⟩ := c.ne ok
    have e2 : (bumpL (L0 ++ [s0])) = [] := e
    rw [bumpL_snoc] at e2
    simp at e2
end
theorem Wl.Ok.drop {l : Wl} (ok : l.Ok) {D : Dsk} (hD : D.Ok) : ({ l with D := D, stream := [] } : Wl).Ok := ⟨hD, ok.n2, ok.n64, ok.s1, ok.s64, ok.a0, ok.a1, ok.last, ok.synced, ok.nd, ok.lt, fun h => (h rfl).elim, Nat.zero_le _⟩
theorem Wl.Ok.sync {l : Wl} (ok : l.Ok) : l.sync.Ok := ⟨ok.dok.sync, ok.n2, ok.n64, ok.s1, ok.s64, ok.a0, ok.a1, ok.last, ok.last, ok.nd, ok.lt, ok.str, ok.slen⟩
end Go.Proofs.YtojlldalhhibmaaDoor

namespace Go.Proofs.YtojlldalhhibmaaDoor
open Go Go.RowKit
set_option linter.unusedVariables false

/-- Segments of the call's own. -/
theorem sg_open {w : World} {B : Nat} {v : Value} {L : List Sg} (h : w.ownsRow B 58 3 v L.length (sgcs L)) (hn : 0 < L.length) : ∃ g c, v = .slice (some ⟨g, 0, none⟩) L.length c ∧ B ≤ g ∧ Hid (∀ j, w.frozen? ⟨g, j, none⟩ = false) ∧
    Hid (∀ j (hj : j < L.length), w.cell? ⟨g, j * 3, none⟩ = some (.int .i64 (L[j].at' : Int)) ∧ w.cell? ⟨g, j * 3 + 1, none⟩ = some (.int .u64 (L[j].base : Int)) ∧ w.cell? ⟨g, j * 3 + 2, none⟩ = some (.int .u64 (L[j].count : Int))) := by
  obtain ⟨A, c, hv, _, _, hA⟩ := Rg3.at (KSl.of_own (by omega) h)
  rcases h.2 with ⟨h2, h3⟩ | ⟨g, cap, cur, h2, hg, hh, _⟩
  · omega
  · obtain ⟨b, o, hA1, _, hc⟩ := hA hn
    rw [h2] at hv
    injection hv with e1 _ e3
    rw [hA1] at e1
    injection e1 with e1
    injection e1 with e1 e2
    subst e1 e2
    refine ⟨g, cap, h2, hg, fun j => by simp [World.frozen?, hh], fun j hj => ?_⟩
    have := hc j hj
    simpa using this
theorem sgcs_count (a b c c' : Nat) : ∀ (L0 : List Sg), sgcs (L0 ++ [⟨a, b, c'⟩]) = (sgcs (L0 ++ [⟨a, b, c⟩])).set (L0.length * 3 + 2) (.int .u64 (c' : Int))
  | [] => rfl
  | s :: L0 => by
    have ih := sgcs_count a b c c' L0
    have e : ∀ (x : Sg) (L : List Sg), sgcs (x :: L) = .int .i64 (x.at' : Int) :: .int .u64 (x.base : Int) :: .int .u64 (x.count : Int) :: sgcs L := fun _ _ => rfl
    rw [List.cons_append, e, ih, List.cons_append, e, List.length_cons, show (L0.length + 1) * 3 + 2 = L0.length * 3 + 2 + 1 + 1 + 1 by omega]
    simp only [List.set_cons_succ]
/-- The last one's count goes up. -/
theorem sg_bump {w : World} {B g c : Nat} {L0 : List Sg} {s0 : Sg} (h : w.ownsRow B 58 3 (.slice (some ⟨g, 0, none⟩) (L0.length + 1) c) (L0 ++ [s0]).length (sgcs (L0 ++ [s0]))) :
    (w.setCell ⟨g, L0.length * 3 + 2, none⟩ (.int .u64 (((s0.count + 1) % U64 : Nat) : Int))).ownsRow B 58 3 (.slice (some ⟨g, 0, none⟩) (L0.length + 1) c) (bumpL (L0 ++ [s0])).length (sgcs (bumpL (L0 ++ [s0]))) := by
  obtain ⟨a, b, k⟩ := s0
  rw [bumpL_snoc, sgcs_count a b k]
  simp only [List.length_append, List.length_singleton] at h ⊢
  exact (World.ownsRow.stored h (L0.length * 3 + 2) _).1
theorem sg_last {w : World} {B : Nat} {A : Option Addr} {c : Nat} {L0 : List Sg} {s0 : Sg} (h : w.ownsRow B 58 3 (.slice A (L0 ++ [s0]).length c) (L0 ++ [s0]).length (sgcs (L0 ++ [s0]))) : ∃ g, A = some ⟨g, 0, none⟩ ∧ B ≤ g ∧ Hid (∀ j, w.frozen? ⟨g, j, none⟩ = false) ∧
    Hid (w.cell? ⟨g, L0.length * 3, none⟩ = some (.int .i64 (s0.at' : Int)) ∧ w.cell? ⟨g, L0.length * 3 + 2, none⟩ = some (.int .u64 (s0.count : Int))) := by
  have hl : L0.length < (L0 ++ [s0]).length := by simp
  obtain ⟨g, c', hv, hB, FZ, CE⟩ := sg_open h (by omega)
  injection hv with e1 _ _
  have := CE.out L0.length hl
  have hx : (L0 ++ [s0])[L0.length]'hl = s0 := by simp
  rw [hx] at this
  exact ⟨g, e1, hB, FZ, this.1, this.2.2⟩
/-- Bytes were appended elsewhere. -/
theorem sg_keep {w w' : World} {B B' g c : Nat} {L0 : List Sg} {s0 : Sg} {v : Value} {l : List UInt8} {i : Nat} (h : w.ownsRow B 58 3 (.slice (some ⟨g, 0, none⟩) (L0 ++ [s0]).length c) (L0 ++ [s0]).length (sgcs (L0 ++ [s0]))) (ho : Ob 5 w B' v l) (hg : w.grownBy w' v.ownBlock) (hi : s0.at' = i) :
    Hid (w'.ownsRow B 58 3 (.slice (some ⟨g, 0, none⟩) (L0 ++ [s0]).length c) (L0 ++ [s0]).length (sgcs (L0 ++ [s0]))) ∧ w'.cell? ⟨g, L0.length * 3, none⟩ = some (.int .i64 (i : Int)) := by
  have h2 := own_sameK (ks := [some 58]) h (SameK.grown hg fun z t hz ht => by
    have := kind_own ho hz
    rw [this] at ht
    cases ht
    decide) (by decide)
  obtain ⟨g', e, _, _, CE⟩ := sg_last h2
  injection e with e
  injection e with e
  subst e hi
  exact ⟨h2, CE.out.1⟩
theorem wrap64_small {m : Nat} (h : m ≤ 64) : wrap64 (m : Int) = (m : Int) := by simp [wrap64]; omega
theorem ApC.last {l : Wl} {q : Nat} {t head b : List UInt8} {L0 : List Sg} {s0 : Sg} {s : List UInt8} {i : Nat} {fr : Bool} (c : ApC l q head b (L0 ++ [s0]) s i fr) (ok : l.Ok) (ht : ¬ (32768 < t.length ∨ 512 * l.size < head.length + b.length)) : L0.length ≤ 64 := by
  have h1 := (c.lens (t := t) ok ht).2.2.2.2
  have h2 := ok.n64
  rw [List.length_append, List.length_singleton] at h1
  omega
/-- THE LOG l LIES AT gl, its disk at h. -/
structure LgV (w : World) (gl : Nat) (h : Zn) (l : Wl) (lv sv : Value) : Prop where
  dk : Dk w h l.D
  lb : Lb w gl h.g l.a l.n l.size lv sv l.last l.synced
  live : Rg3 w lv l.live
  str : Ub w 0 sv l.stream
def Lg (w : World) (gl : Nat) (h : Zn) (l : Wl) : Prop := ∃ lv sv, LgV w gl h l lv sv
section
variable {w w' : World} {gl : Nat} {h h' : Zn} {l : Wl} {lv sv : Value} {D' : Dsk}
theorem LgV.later (g : LgV w gl h l lv sv) (hb : Below w.heap.size w w') : LgV w' gl h l lv sv := ⟨g.dk.later hb, g.lb.later hb, KSl.later g.live hb, g.str.later hb⟩
theorem LgV.drew (g : LgV w gl h l lv sv) : LgV w.drew gl h l lv sv := g.later (below_drewN (Below.refl _ _) 1)
theorem LgV.stp (g : LgV w gl h l lv sv) (k : Dk w' h' D') (s : Stp h w h' w') : LgV w' gl h' { l with D := D' } lv sv :=
  ⟨k, by rw [s.g]; exact s.lb g.dk g.lb, KSl.same g.live (s.same (ks := [some 58]) g.dk (by decide) (by decide) (by decide)) (by decide), s.ub g.dk g.str⟩
theorem Lg.later (g : Lg w gl h l) (hb : Below w.heap.size w w') : Lg w' gl h l := by
  obtain ⟨lv, sv, g⟩ := g
  exact ⟨lv, sv, g.later hb⟩
end

def lgKs : List (Option TypeId) := some 58 :: dkKs
theorem SameK.dk {w w' : World} (h : SameK lgKs w w') : SameK dkKs w w' := h.less fun t ht => List.mem_cons_of_mem _ ht
theorem LgV.sync {w w' : World} {gl : Nat} {h h' : Zn} {l : Wl} {lv sv : Value} (g : LgV w gl h l lv sv) (hd : Dk w' h' l.D.sync) (hl : Lb w' gl h.g l.a l.n l.size lv sv l.last l.last) (m : Mtp h gl w h' w') : LgV w' gl h' l.sync lv sv := by
  have hs : SameK [some 58, some 5] w w' := m.sameL g.dk g.lb (by decide) (by decide) (by decide) (by decide)
  exact ⟨hd, by rw [m.g]; exact hl, KSl.same g.live hs (by decide), g.str.same hs (by decide)⟩
section
variable {w w7 : World} {gl gL c8 B : Nat} {h h7 : Zn} {l : Wl} {D7 : Dsk} {lv sv v5 : Value} {L0 : List Sg} {s0 : Sg} {S5 : List UInt8} {q : Nat}
/-- The record stands: count, segments, stream and number are put. -/
theorem lg_done (G : LgV w7 gl h7 { l with D := D7 } lv sv) (hL : w7.ownsRow B 58 3 (.slice (some ⟨gL, 0, none⟩) (L0.length + 1) c8) (L0 ++ [s0]).length (sgcs (L0 ++ [s0]))) (hB : w.heap.size ≤ gL) (hs : Ub w7 0 v5 S5) (st : Stp h w h7 w7)
    {W8 : World} (hW : w7.setCell ⟨gL, L0.length * 3 + 2, none⟩ (.int .u64 (((s0.count + 1) % U64 : Nat) : Int)) = W8) :
    Lb W8 gl h7.g l.a l.n l.size lv sv l.last l.synced ∧ LgV (((W8.setCell ⟨gl, 4, none⟩ (.slice (some ⟨gL, 0, none⟩) (L0.length + 1) c8)).setCell ⟨gl, 5, none⟩ v5).setCell ⟨gl, 6, none⟩ (.int .u64 (q : Int))) gl h7 { l with D := D7, live := bumpL (L0 ++ [s0]), stream := S5, last := q } (.slice (some ⟨gL, 0, none⟩) (L0.length + 1) c8) v5 ∧
      Mtp h gl w h7 (((W8.setCell ⟨gl, 4, none⟩ (.slice (some ⟨gL, 0, none⟩) (L0.length + 1) c8)).setCell ⟨gl, 5, none⟩ v5).setCell ⟨gl, 6, none⟩ (.int .u64 (q : Int))) := by
  have hne : gl ≠ gL := fun e => own_ne hL G.lb (by decide) (by rw [e]; rfl)
  have hg : w7.grownBy (w7.setCell ⟨gL, L0.length * 3 + 2, none⟩ (.int .u64 (((s0.count + 1) % U64 : Nat) : Int))) (some gL) := by
    have h9 := hL
    simp only [List.length_append, List.length_singleton] at h9
    exact (World.ownsRow.stored h9 (L0.length * 3 + 2) _).2
  have k8 : SameK dkKs w7 W8 := by
    rw [← hW]
    exact SameK.grown hg fun z t hz ht => by
      have := kind_own hL hz
      rw [this] at ht
      cases ht
      decide
  have b8 : Lb W8 gl h7.g l.a l.n l.size lv sv l.last l.synced := by rw [← hW]; exact Blk.far (p := ⟨gL, L0.length * 3 + 2, none⟩) G.lb hne _
  have o8 := sg_bump hL
  rw [hW] at o8
  have k9 : SameK lgKs W8 (((W8.setCell ⟨gl, 4, none⟩ (.slice (some ⟨gL, 0, none⟩) (L0.length + 1) c8)).setCell ⟨gl, 5, none⟩ v5).setCell ⟨gl, 6, none⟩ (.int .u64 (q : Int))) :=
    ((SameK.setCell (p := ⟨gl, 4, none⟩) b8 (by decide) _).trans (SameK.setCell (p := ⟨gl, 5, none⟩) (b8.put 4 _) (by decide) _)).trans (SameK.setCell (p := ⟨gl, 6, none⟩) ((b8.put 4 _).put 5 _) (by decide) _)
  have l9 : (((W8.setCell ⟨gl, 4, none⟩ (.slice (some ⟨gL, 0, none⟩) (L0.length + 1) c8)).setCell ⟨gl, 5, none⟩ v5).setCell ⟨gl, 6, none⟩ (.int .u64 (q : Int))).ownsRow B 58 3 (.slice (some ⟨gL, 0, none⟩) (L0.length + 1) c8) (bumpL (L0 ++ [s0])).length (sgcs (bumpL (L0 ++ [s0]))) := own_sameK o8 k9 (by decide)
  refine ⟨b8, ⟨(G.dk.same k8).same k9.dk, ((b8.put 4 _).put 5 _).put 6 _, KSl.of_own (by omega) l9, (hs.same k8 (by decide)).same k9 (by decide)⟩, st.g, ?_, st.has⟩
  rw [← hW]
  exact ((((st.turn.mono (F' := fun b => h.has b ∨ b = gl) fun b hb _ => Or.inl hb).setCell (p := ⟨gL, L0.length * 3 + 2, none⟩) (.inr hB) _).setCell (p := ⟨gl, 4, none⟩) (.inl (.inr rfl)) _).setCell (p := ⟨gl, 5, none⟩) (.inl (.inr rfl)) _).setCell (p := ⟨gl, 6, none⟩) (.inl (.inr rfl)) _
/-- The write was refused: there is no current segment. -/
theorem lg_fail (G : LgV w7 gl h7 { l with D := D7 } lv sv) (hL : w7.ownsRow B 58 3 (.slice (some ⟨gL, 0, none⟩) (L0.length + 1) c8) (L0 ++ [s0]).length (sgcs (L0 ++ [s0]))) (st : Stp h w h7 w7)
    {W8 : World} (hW : w7.setCell ⟨gl, 5, none⟩ (.slice none 0 0) = W8) :
    LgV W8 gl h7 { l with D := D7, stream := [] } lv (.slice none 0 0) ∧ Mtp h gl w h7 W8 ∧ W8.cell? ⟨gL, L0.length * 3, none⟩ = some (.int .i64 (s0.at' : Int)) := by
  subst hW
  have k9 : SameK lgKs w7 (w7.setCell ⟨gl, 5, none⟩ (.slice none 0 0)) := SameK.setCell (p := ⟨gl, 5, none⟩) G.lb (by decide) _
  have o9 := own_sameK hL k9 (by decide)
  have e9 : (L0 ++ [s0]).length = L0.length + 1 := by simp
  rw [← e9] at o9
  obtain ⟨g', e, _, _, CE⟩ := sg_last o9
  injection e with e
  injection e with e
  subst e
  exact ⟨⟨G.dk.same k9.dk, G.lb.put 5 _, KSl.same G.live k9 (by decide), (Sl.nil : Bs _ _ _ [])⟩, ⟨st.g, (st.turn.mono (F' := fun b => h.has b ∨ b = gl) fun b hb _ => Or.inl hb).setCell (p := ⟨gl, 5, none⟩) (.inl (.inr rfl)) _, st.has⟩, CE.out.1⟩
theorem Mtp.stp {w1 w2 : World} {h1 h2 : Zn} (m : Mtp h gl w h1 w1) (s : Stp h1 w1 h2 w2) : Mtp h gl w h2 w2 :=
  ⟨s.g.trans m.g, m.turn.trans s.turn fun b hb => (m.has b hb).imp Or.inl id, fun b hb => (s.has b hb).elim (m.has b) fun h9 => .inr (Nat.le_trans m.turn.size h9)⟩
theorem Mtp.mtp {w1 w2 : World} {h1 h2 : Zn} (m : Mtp h gl w h1 w1) (s : Mtp h1 gl w1 h2 w2) : Mtp h gl w h2 w2 :=
  ⟨s.g.trans m.g, m.turn.trans s.turn fun b hb => hb.elim (fun h9 => (m.has b h9).imp Or.inl id) (fun h9 => .inl (.inr h9)), fun b hb => (s.has b hb).elim (m.has b) fun h9 => .inr (Nat.le_trans m.turn.size h9)⟩
end
end Go.Proofs.YtojlldalhhibmaaDoor
