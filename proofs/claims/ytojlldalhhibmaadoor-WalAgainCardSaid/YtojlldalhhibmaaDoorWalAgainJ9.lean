/- What the proof of WalAgain needs, part 9. -/
import Derived.Test.YtojlldalhhibmaaDoorWalAgainJ8
import Derived.Deep.Cut
import Derived.Deep.DeepCutAuto
import Derived.BigQuiet
import Derived.Deep.QuietTactic
import Derived.RegionTactic

namespace Go.Proofs.YtojlldalhhibmaaDoor
open Go Go.RowKit
set_option linter.unusedVariables false

def ApPost (gl : Nat) (h : Zn) (l : Wl) (t : List UInt8) (w : World) (e : Ending) (w' : World) : Prop :=
  e = .returned (.tuple #[.int .u64 ((wAppend l t).2.1 : Int), .int .i64 ((wAppend l t).2.2 : Int)]) ∧ ∃ h', Lg w' gl h' (wAppend l t).1 ∧ Mtp h gl w h' w'
theorem wAppend_long {l : Wl} {t head b : List UInt8} {q : Nat} (hq : q = (l.last + 1) % U64) (hh : head = recB q titleB) (hb : b = recB q t) (h : 32768 < t.length ∨ 512 * l.size < head.length + b.length) : wAppend l t = (l, 0, 81) := by
  subst hq hh hb
  unfold wAppend
  rw [if_pos h]
theorem wAppend_full {l : Wl} {t head b : List UInt8} {q : Nat} (hq : q = (l.last + 1) % U64) (hh : head = recB q titleB) (hb : b = recB q t) (ht : ¬ (32768 < t.length ∨ 512 * l.size < head.length + b.length)) (h1 : l.stream = [] ∨ 512 * l.size < l.stream.length + b.length) (h2 : wFresh l.live l.n = none) : wAppend l t = (l, 0, 82) := by
  subst hq hh hb
  unfold wAppend
  rw [if_neg ht, if_pos h1, h2]
/-- Is a new segment wanted? -/
def FrC (l : Wl) (b : List UInt8) (fr : Bool) : Prop := fr = true ↔ (l.stream = [] ∨ 512 * l.size < l.stream.length + b.length)
theorem FrC.yes {l : Wl} {b : List UInt8} (h : l.stream = [] ∨ 512 * l.size < l.stream.length + b.length) : FrC l b true := ⟨fun _ => h, fun _ => rfl⟩
theorem FrC.no {l : Wl} {b : List UInt8} (h : ¬ (l.stream = [] ∨ 512 * l.size < l.stream.length + b.length)) : FrC l b false := ⟨fun e => (by cases e), fun e => (h e).elim⟩
set_option maxHeartbeats 8000000 in
set_option maxRecDepth 100000 in
theorem lgappend_any (h : Zn) (l : Wl) (gl : Nat) (t : List UInt8) (w : World) (hg : Lg w gl h l) (ok : l.Ok) (hb : BitsOk w) (ht : t.length ≤ 1099511627776) (hp : l.D.pend.length ≤ 800000) :
    Calls Tryd.prog 12 #[.pointer (some ⟨gl, 0, none⟩), .string (st t)] w (ApPost gl h l t w) := by
  obtain ⟨lv, sv, hg⟩ := hg
  obtain ⟨As, cs, rfl, hs1, hs2, -, -⟩ := hg.str.bs.at
  obtain ⟨Al, cl, rfl, hl1, hl2, -⟩ := Rg3.at hg.live
  have HG := Lib.hid hg
  have HBI := Lib.hid hb
  have OK := Lib.hid ok
  have hsz : l.size ≤ 64 := ok.s64
  have hsl := ok.slen
  have hln := Lib.hid ok.len
  have HP := Lib.hid hp
  have l6 : w.cell? ⟨gl, 6, none⟩ = some (.int .u64 (l.last : Int)) := hg.lb.cell 6
  obtain ⟨q, hq⟩ : ∃ q, q = (l.last + 1) % U64 := ⟨_, rfl⟩
  have hwr : IntKind.u64.wrap ((l.last : Int) + 1) = (q : Int) := by have := u64_add l.last 1; rw [hq]; simpa using this
  have hqU : q < U64 := by rw [hq]; exact Nat.mod_lt _ (by unfold U64; omega)
  have HQ := Lib.hid hq
  have HQU := Lib.hid hqU
  obtain ⟨head, hhd⟩ : ∃ head, head = recB q titleB := ⟨_, rfl⟩
  obtain ⟨b, hbb⟩ : ∃ b, b = recB q t := ⟨_, rfl⟩
  have HHD := Lib.hid hhd
  have HBB := Lib.hid hbb
  have htit : Hid (st titleB = ⟨#[115, 101, 103, 109, 101, 110, 116]⟩) := rfl
  have hqz : ∀ (w1 : World), Hid (Below w.heap.size w w1 → ∀ e w', RPutPost q titleB w1 e w' → ∃ A k c, e = .returned (.tuple #[.slice A k c, .int .i64 0]) ∧ Ob 5 w' w1.heap.size (.slice A k c) head ∧ Below w1.heap.size w1 w') := fun w1 _ e w' hr => by
    obtain ⟨A, k, c, he, ho⟩ := hr.1 (by decide)
    rw [hhd]
    exact ⟨A, k, c, he, ho, hr.2.2⟩
  clear hg hb ok hp hq hqU hhd hbb
  by_cases hlong : 32768 < t.length
  · go_enter Tryd.func12, Tryd.ntmps12
    go_wp2_with fail
    refine (rput_any q t w HQU.out HBI.out ht).mono ?_
    rintro e w1 ⟨-, h2, q1⟩
    obtain rfl := h2 hlong
    have Q1 := Lib.hid q1
    clear h2 q1
    go_wp2_with fail
    rw [← htit.out]
    refine (rput_any q titleB w1 HQU.out (HBI.out.later Q1.out) (by decide)).mono ?_
    intro e w2 hr2
    obtain ⟨A2, k2, c2, rfl, ho2, q2⟩ := (hqz w1).out Q1.out _ _ hr2
    have Q2 := Lib.hid (Q1.out.trans (q2.mono Q1.out.size))
    have E := Lib.hid (wAppend_long HQ.out HHD.out HBB.out (.inl hlong))
    clear q2 ho2 hr2 hlong
    go_wp2_with fail
    go_ret2
    refine ⟨by rw [E.out]; rfl, h, ?_, Mtp.of_stp (Stp.below Q2.out)⟩
    rw [E.out]
    exact ⟨_, _, HG.out.later Q2.out⟩
  · go_enter Tryd.func12, Tryd.ntmps12
    go_wp2_with fail
    refine (rput_any q t w HQU.out HBI.out ht).mono ?_
    rintro e w1 ⟨h1, -, q1⟩
    obtain ⟨A1, k1, c1, rfl, ho1⟩ := h1 (by omega)
    rw [← HBB.out] at ho1
    have Q1 := Lib.hid q1
    have O1 := Lib.hid ho1
    obtain rfl := ho1.len
    clear h1 q1 ho1
    go_wp2_with fail
    rw [← htit.out]
    refine (rput_any q titleB w1 HQU.out (HBI.out.later Q1.out) (by decide)).mono ?_
    intro e w2 hr2
    obtain ⟨A2, k2, c2, rfl, ho2, q2⟩ := (hqz w1).out Q1.out _ _ hr2
    obtain rfl := ho2.len
    have Q2 := Lib.hid (Q1.out.trans (q2.mono Q1.out.size))
    have OB := Lib.hid (Ub.of_own (O1.out.later q2))
    have OH := Lib.hid (Ub.of_own ho2)
    have G2 := Lib.hid (HG.out.later Q2.out)
    clear q2 ho2 hr2 hqz
    have hbm : b.length ≤ 100000 := by
      rw [HBB.out, recB_len, recF]
      have h1 := varB_le10 HQU.out
      have h2 := varB_le10 (x := t.length) (by unfold U64; omega)
      simp only [List.length_append]
      omega
    have hhm : head.length ≤ 100000 := by
      rw [HHD.out, recB_len, recF]
      have h1 := varB_le10 HQU.out
      have h2 := varB_le10 (x := titleB.length) (by decide)
      have h3 : titleB.length = 7 := rfl
      simp only [List.length_append]
      omega
    by_cases hfit : 512 * l.size < head.length + b.length
    · have E := Lib.hid (wAppend_long HQ.out HHD.out HBB.out (.inr hfit))
      go_wp2_with (go_at_call 24; refine (lgroom_any gl h.g l.a l.n l.size _ _ l.last l.synced w2 G2.out.lb hsz).mono ?_; rintro e w3 ⟨rfl, rfl⟩)
      go_ret2
      refine ⟨by rw [E.out]; rfl, h, ?_, Mtp.of_stp (Stp.below Q2.out)⟩
      rw [E.out]
      exact ⟨_, _, G2.out⟩
    · go_wp2_with (go_at_call 24; refine (lgroom_any gl h.g l.a l.n l.size _ _ l.last l.synced w2 G2.out.lb hsz).mono ?_; rintro e w3 ⟨rfl, rfl⟩)
      have HFIT : Hid (¬ (32768 < t.length ∨ 512 * l.size < head.length + b.length)) := fun h9 => h9.elim hlong hfit
      have m5 : w2.cell? ⟨gl, 5, none⟩ = some (.slice As l.stream.length cs) := G2.out.lb.cell 5
      have m4 : w2.cell? ⟨gl, 4, none⟩ = some (.slice Al l.live.length cl) := G2.out.lb.cell 4
      clear hfit hlong HBI hwr l6
      refine wp_region_grow_lit (by kernel_rfl) (by kernel_rfl) ?_
      apply Exists.intro
      apply And.intro
      · repeat (first
          | (apply wpGrow_skip rfl
             intro K hK
             go_simp
             refine hK _ ?_
             clear hK K)
          | (apply wpGrow_is rfl
             · intro wg hwg _
               have c1 := cell_later hwg m4
               have c2 := cell_later hwg m5
               unfold grows
               go_simp
               first
                 | exact grows_value _ _
             intro K hK
             go_simp
             refine hK _ ?_
             clear hK K))
        refine wpGrow_end (fun wg hwg _ => ?_)
        have G3 := Lib.hid (G2.out.later hwg)
        have Q3 := Lib.hid (Q2.out.trans (hwg.mono Q2.out.size))
        have OB3 := Lib.hid (OB.out.later hwg)
        have OH3 := Lib.hid (OH.out.later hwg)
        clear m4 m5 G2 Q2 OB OH
        go_upto_region 7 with (fail)
        generalize hBw : wg.heap.size = Bw at *
        go_cut [72] (fun v wx => ∃ fr : Bool, v = .bool fr ∧ wx = wg ∧ Hid (FrC l b fr))
        case first =>
          by_cases h0 : l.stream.length = 0
          · have h1 : ((l.stream.length : Int) == 0) = true := by rw [h0]; rfl
            have HX : Hid (FrC l b true) := FrC.yes (.inl (List.eq_nil_of_length_eq_zero h0))
            clear h0
            go_wp2_with fail
            go_meet
            exact ⟨true, rfl, rfl, HX⟩
          · have h1 : ((l.stream.length : Int) == 0) = false := by rw [beq_eq_false_iff_ne]; omega
            have h3 : Hid (¬ l.stream = []) := fun e => h0 (by rw [e]; rfl)
            by_cases h2 : 512 * l.size < l.stream.length + b.length
            · have h4 : 512 * (l.size : Int) < (l.stream.length : Int) + (b.length : Int) := by omega
              have HX : Hid (FrC l b true) := FrC.yes (.inr h2)
              clear h0 h2
              go_wp2_with (go_at_call 24; refine (lgroom_any gl h.g l.a l.n l.size _ _ l.last l.synced wg G3.out.lb hsz).mono ?_; rintro e w3 ⟨rfl, rfl⟩)
              go_meet
              exact ⟨true, by first | rfl | (simp; omega), rfl, HX⟩
            · have h4 : ¬ 512 * (l.size : Int) < (l.stream.length : Int) + (b.length : Int) := by omega
              have HX : Hid (FrC l b false) := FrC.no (fun h9 => h9.elim h3.out h2)
              clear h0 h2
              go_wp2_with (go_at_call 24; refine (lgroom_any gl h.g l.a l.n l.size _ _ l.last l.synced wg G3.out.lb hsz).mono ?_; rintro e w3 ⟨rfl, rfl⟩)
              go_meet
              exact ⟨false, by first | rfl | (simp; omega), rfl, HX⟩
        obtain ⟨fr, rfl, rfl, FR⟩ := hcut
        obtain ⟨wd, hwd⟩ : ∃ wd, wd = wc := ⟨_, rfl⟩
        subst hwd
        go_upto_if 72 with (fail)
        go_cut [11, 12, 13, 14] (fun av fv lv nv wx => ∃ (L : List Sg) (s : List UInt8) (i : Nat) (A7 : Option Addr) (c7 : Nat) (A8 : Option Addr) (c8 : Nat), av = .slice A7 s.length c7 ∧ fv = .int .i64 (apFrom l fr : Int) ∧ lv = .slice A8 L.length c8 ∧ Hid (Ub wx 0 (.slice A7 s.length c7) s) ∧ Hid (wx.ownsRow Bw 58 3 (.slice A8 L.length c8) L.length (sgcs L)) ∧ Hid (ApC l q head b L s i fr) ∧ Hid (Below wd.heap.size wd wx))
        case first =>
          cases fr with
          | true =>
            have FR1 := Lib.hid (FR.out.1 rfl)
            have m2 : wd.cell? ⟨gl, 2, none⟩ = some (.int .i64 (l.n : Int)) := G3.out.lb.cell 2
            have OKn : Hid (l.n ≤ 64) := OK.out.n64
            clear FR
            go_wp2_with fail
            clear m2
            go_loopw [14] (fun nv wr => ∃ k : Nat, nv = .int .i64 (k : Int) ∧ k ≤ l.n ∧ Hid (∀ j, j < k → usedL l.live j = true) ∧ Hid (Below wd.heap.size wd wr)) (fun nv _ => l.n - (intOf nv).toNat)
            case atStart => exact ⟨0, rfl, Nat.zero_le _, fun j hj => by omega, Below.refl _ _⟩
            case round =>
              obtain ⟨k, rfl, hk, HU, BL⟩ := hrel
              have GR := Lib.hid (G3.out.later BL.out)
              have m2 : wr.cell? ⟨gl, 2, none⟩ = some (.int .i64 (l.n : Int)) := GR.out.lb.cell 2
              have hk64 : k ≤ 64 := Nat.le_trans hk OKn.out
              by_cases hlt : k < l.n
              · have h4 : (k : Int) < (l.n : Int) := by omega
                cases hu : usedL l.live k with
                | true =>
                  have HU2 : Hid (∀ j, j < k + 1 → usedL l.live j = true) := fun j hj => by
                    rcases Nat.lt_or_ge j k with h9 | h9
                    · exact HU.out j h9
                    · obtain rfl : j = k := by omega
                      exact hu
                  clear HU
                  go_wp2_with (go_at_call 21; refine (lgused_any gl h.g l.a l.n l.size k _ _ l.last l.synced l.live wr GR.out.lb GR.out.live).mono ?_; rintro e w3 ⟨rfl, hb3⟩; rw [hu])
                  have B3 := Lib.hid (BL.out.trans (hb3.mono BL.out.size))
                  clear hb3
                  go_roundw
                  case rel => exact ⟨k + 1, by go_num, by omega, HU2, B3⟩
                  case measure => simp [intOf]; omega
                | false =>
                  have HFS := Lib.hid (wFresh_at hlt HU.out hu)
                  clear HU
                  go_wp2_with (go_at_call 21; refine (lgused_any gl h.g l.a l.n l.size k _ _ l.last l.synced l.live wr GR.out.lb GR.out.live).mono ?_; rintro e w3 ⟨rfl, hb3⟩; rw [hu]; have B3 := Lib.hid (BL.out.trans (hb3.mono BL.out.size)); have m3 := cell_later hb3 m2)
                  have HSG : Hid (sgC ⟨k, q, 0⟩ = [.int .i64 (k : Int), .int .u64 (q : Int), .int .u64 0]) := rfl
                  have G3' := Lib.hid (G3.out.later B3.out)
                  refine (sgclone_any _ l.live w3 (by have := hln.out; have := OK.out.n64; omega) G3'.out.live).mono ?_
                  rintro e w4 ⟨A8, c8, rfl, ho8, hb8⟩
                  have B4 := Lib.hid (B3.out.trans (hb8.mono B3.out.size))
                  have O4 : Hid (w4.ownsRow Bw 58 3 (.slice A8 l.live.length c8) l.live.length (sgcs l.live)) := own_lower ho8 (by rw [← hBw]; exact B3.out.size)
                  have hs1 := Sl.newsg w4 ⟨k, q, 0⟩ rfl
                  rw [HSG.out] at hs1
                  have HS1 := Lib.hid hs1
                  have hone := Lib.hid (by have := sgC_one ⟨k, q, 0⟩; rw [HSG.out] at this; exact this)
                  have hbz : Hid (Bw ≤ w4.heap.size) := by rw [Hid, ← hBw]; exact B4.out.size
                  have hlm := Lib.hid (Nat.le_trans hln.out OKn.out)
                  have hM1 : Hid (l.live.length + 1 ≤ maxLen) := by have := hlm.out; simp only [Hid, maxLen]; omega
                  have hM2 : Hid ((l.live.length + 1) * 24 ≤ 140737488355328) := by have := hlm.out; rw [Hid]; omega
                  have hM3 : Hid (∀ o : Obj, Bw ≤ (w4.alloc o).heap.size) := fun o => by have := hbz.out; simp; omega
                  clear hs1 ho8 hb8 m2 m3
                  go_wp2_with (at_builtin; refine wpList_append_sl _ rfl (.tmp 94) (.tmp 98) elemSg rfl (World.ownsRow.alloc O4.out _) HS1.out rfl rfl hone.out hM1.out hM2.out (hM3.out _) ?_; intro A5 k5 c5 w5 hown5 hg5 hat5)
                  obtain rfl := own_len hown5
                  have B5 := Lib.hid (below_grown_own (B4.out.alloc B4.out.size _) (World.ownsRow.alloc (own_lower O4.out (Nat.le_of_eq hBw)) _) hg5 (by have := B4.out.size; simp; omega))
                  have O5 : Hid (w5.ownsRow Bw 58 3 (.slice A5 (l.live ++ [(⟨k, q, 0⟩ : Sg)]).length c5) (l.live ++ [(⟨k, q, 0⟩ : Sg)]).length (sgcs (l.live ++ [(⟨k, q, 0⟩ : Sg)]))) := by rw [Hid, sgcs_snoc, HSG.out, List.length_append, List.length_singleton]; exact hown5
                  have AC : Hid (ApC l q head b (l.live ++ [(⟨k, q, 0⟩ : Sg)]) head k true) := ⟨fun _ => ⟨FR1.out, HFS.out, rfl, rfl⟩, fun e => (by cases e)⟩
                  clear hown5 hg5 hat5
                  go_meet
                  exact ⟨l.live ++ [⟨k, q, 0⟩], head, k, A2, c2, A5, c5, rfl, rfl, by rw [List.length_append, List.length_singleton], (OH3.out.later B5.out).lower (Nat.zero_le _), O5, AC, B5⟩
              · obtain rfl : k = l.n := by omega
                have E := Lib.hid (wAppend_full HQ.out HHD.out HBB.out HFIT.out FR1.out (wFresh_none HU.out))
                go_wp2_with fail
                go_ret2
                refine ⟨by rw [E.out]; rfl, h, ?_, Mtp.of_stp (Stp.below (Q3.out.trans (BL.out.mono Q3.out.size)))⟩
                rw [E.out]
                exact ⟨_, _, GR.out⟩
          | false =>
            have FR0 : Hid (¬ (l.stream = [] ∨ 512 * l.size < l.stream.length + b.length)) := fun h9 => by have := FR.out.2 h9; cases this
            clear FR
            go_wp2_with fail
            refine (sgclone_any _ l.live wd (by have := hln.out; have := OK.out.n64; omega) G3.out.live).mono ?_
            rintro e w3 ⟨A8, c8, rfl, ho8, hb8⟩
            have O8 := Lib.hid ho8
            have B8 := Lib.hid hb8
            have AC : Hid (ApC l q head b l.live l.stream (((l.live.getLast?).map (·.at')).getD 0) false) := ⟨fun e => (by cases e), fun _ => ⟨FR0.out, rfl, rfl, rfl⟩⟩
            clear ho8 hb8
            go_wp2_with fail
            go_meet
            exact ⟨l.live, l.stream, _, As, cs, A8, c8, rfl, rfl, rfl, G3.out.str.later B8.out, by rw [← hBw]; exact O8.out, AC, B8⟩
        obtain ⟨L, s, i, A7, c7, A8, c8, rfl, rfl, rfl, US, OL, AC, BW⟩ := hcut
        have HLE := Lib.hid (AC.out.lens OK.out HFIT.out)
        obtain ⟨L0, s0, hL, hs0⟩ := AC.out.ne OK.out
        subst hL
        have HS0 := Lib.hid hs0
        clear hs0
        obtain ⟨gL, rfl, hgL, FZ, CEl⟩ := sg_last OL.out
        have hm64 := AC.out.last OK.out HFIT.out
        have BC := Lib.hid (BW.out)
        go_wp2_with fail
        refine (bsclone_any _ _ s wc (by have := HLE.out.1; rw [List.length_append] at this; omega) US.out.bs).mono ?_
        rintro e w5 ⟨A9, c9, rfl, ho9, hb9⟩
        have B5 := Lib.hid (BC.out.trans (hb9.mono BC.out.size))
        have OB5 := Lib.hid ((OB3.out.later B5.out).bs)
        have O9 := Lib.hid ho9
        have OL5 := Lib.hid (own_later OL.out hb9)
        have hM1 : Hid (s.length + b.length ≤ 140737488355328) := by have := HLE.out.1; rw [List.length_append] at this; rw [Hid]; omega
        have HB9 := Lib.hid hb9.size
        clear ho9 hb9 CEl
        go_wp2_with (at_builtin; refine wpList_append_bs _ rfl (.tmp 103) (.tmp 104) elemU8 rfl O9.out OB5.out rfl rfl hM1.out HB9.out ?_; intro A5 k5 c5 w6 hown6 hg6 hat6; obtain ⟨OL6, x0⟩ := sg_keep OL5.out O9.out hg6 HS0.out)
        obtain rfl := hown6.len
        have B6 := Lib.hid (below_grown_own B5.out (own_lower O9.out BC.out.size) hg6 B5.out.size)
        have US6 := Lib.hid ((Ub.of_own hown6).lower (Nat.zero_le _))
        have G6 := Lib.hid (G3.out.later B6.out)
        have Q6 := Lib.hid (Q3.out.trans (B6.out.mono Q3.out.size))
        clear hown6 hg6 hat6 x0
        refine (lgput_any h l.D gl l.a l.n l.size i (apFrom l fr) _ _ l.last l.synced _ (s ++ b) w6 G6.out.dk OK.out.dok G6.out.lb OK.out.s64 (by have := HLE.out.2.1; have := OK.out.n64; omega) OK.out.a0 OK.out.am (by have := HP.out; omega) US6.out (by have := HLE.out.1; have := OK.out.s64; omega) HLE.out.2.2.1).mono ?_
        rintro e w7 ⟨rfl, h7, hd7, hs7⟩
        have HPEN : Hid ((wPut l.D (l.a + (i : Int) * l.size) (s ++ b) (s ++ b).length (apFrom l fr / 512)).1.pend.length ≤ 900000) := by
          have h1 := wPut_pend (l.a + (i : Int) * l.size) (s ++ b) (s ++ b).length (apFrom l fr / 512) l.D
          have h2 := HLE.out.1
          have h3 := HP.out
          have h4 := OK.out.s64
          rw [Hid]
          omega
        have HOK7 : Hid ((wPut l.D (l.a + (i : Int) * l.size) (s ++ b) (s ++ b).length (apFrom l fr / 512)).1.Ok) := wPut_ok _ _ _ _ OK.out.dok
        obtain ⟨r, hr⟩ : ∃ r, wPut l.D (l.a + (i : Int) * l.size) (s ++ b) (s ++ b).length (apFrom l fr / 512) = r := ⟨_, rfl⟩
        rw [hr] at hd7 HPEN HOK7 ⊢
        have HR := Lib.hid hr
        have G7 := Lib.hid (G6.out.stp hd7 hs7)
        have OL7 := Lib.hid (own_sameK OL6.out (hs7.same (ks := [some 58]) G6.out.dk (by decide) (by decide) (by decide)) (by decide))
        have US7 := Lib.hid (hs7.ub G6.out.dk US6.out)
        have S7 := Lib.hid ((Stp.below Q6.out).trans hs7)
        obtain ⟨_, he7, _, FZ7, CE7⟩ := sg_last OL7.out
        cases he7
        have x0 := CE7.out.1
        rw [HS0.out] at x0
        clear hr hd7 hs7 US6 OL6 G6 FZ OL5 OB5 O9 B5 HB9 hM1
        have USX : Hid (Ub w7 0 (.slice A5 (s.length + b.length) c5) (s ++ b)) := by have h9 := US7.out; rw [List.length_append] at h9; exact h9
        have OLX : Hid (w7.ownsRow Bw 58 3 (.slice (some ⟨gL, 0, none⟩) (L0.length + 1) c8) (L0 ++ [s0]).length (sgcs (L0 ++ [s0]))) := by have h9 := OL7.out; simp only [Hid, List.length_append, List.length_singleton] at h9 ⊢; exact h9
        by_cases hr0 : r.2 = 0
        · have E := Lib.hid (wAppend_ok HQ.out HHD.out HBB.out HFIT.out AC.out HR.out hr0)
          rw [hr0]
          have x2 := CE7.out.2
          have f2 := FZ7.out (L0.length * 3 + 2)
          have hwc : IntKind.u64.wrap ((s0.count : Int) + 1) = (((s0.count + 1) % U64 : Nat) : Int) := by have := u64_add s0.count 1; simpa using this
          go_upto_region 26 with (fail)
          generalize hW8 : w7.setCell _ _ = W8 at *
          have DN := Lib.hid (lg_done (q := q) G7.out OLX.out (by have := Q3.out.size; omega) USX.out S7.out hW8)
          have g4 : W8.cell? ⟨gl, 4, none⟩ = some (.slice Al l.live.length cl) := DN.out.1.cell 4
          have g5 : W8.cell? ⟨gl, 5, none⟩ = some (.slice As l.stream.length cs) := DN.out.1.cell 5
          have g6 : W8.cell? ⟨gl, 6, none⟩ = some (.int .u64 (l.last : Int)) := DN.out.1.cell 6
          have f4 := DN.out.1.free 4
          have f5 := DN.out.1.free 5
          have f6 := DN.out.1.free 6
          clear x0 x2 f2 hwc hW8
          go_wp2_with fail
          go_ret2
          refine ⟨by rw [E.out]; rfl, h7, ?_, DN.out.2.2⟩
          rw [E.out]
          exact ⟨_, _, DN.out.2.1⟩
        · have E := Lib.hid (wAppend_no HQ.out HHD.out HBB.out HFIT.out AC.out HR.out hr0)
          have hy1 : ¬ ((r.2 : Int) = 0) := by omega
          have hy2 : ((r.2 : Int) == 0) = false := by rw [beq_eq_false_iff_ne]; omega
          have g5 : w7.cell? ⟨gl, 5, none⟩ = some (.slice As l.stream.length cs) := G7.out.lb.cell 5
          have f5 := G7.out.lb.free 5
          have HR0 := Lib.hid hr0
          clear hr0
          go_upto_region 21 with (fail)
          generalize hW8 : w7.setCell _ _ = W8 at *
          have FA := Lib.hid (lg_fail G7.out OLX.out S7.out hW8)
          have x8 : W8.cell? ⟨gL, L0.length * 3, none⟩ = some (.int .i64 (i : Int)) := by rw [← HS0.out]; exact FA.out.2.2
          clear x0 g5 f5 hW8
          have HU := Lib.hid HLE.out.2.2.2.1
          cases fr with
          | false =>
            go_wp2_with (go_at_call 21; refine (lgused_any gl h7.g l.a l.n l.size i _ _ l.last l.synced l.live W8 FA.out.1.lb FA.out.1.live).mono ?_; rintro e w9 ⟨rfl, hb9⟩; rw [HU.out])
            go_ret2
            refine ⟨by rw [E.out]; rfl, h7, ?_, FA.out.2.1.stp (Stp.below hb9)⟩
            rw [E.out]
            exact ⟨_, _, FA.out.1.later hb9⟩
          | true =>
            go_wp2_with (go_at_call 21; refine (lgused_any gl h7.g l.a l.n l.size i _ _ l.last l.synced l.live W8 FA.out.1.lb FA.out.1.live).mono ?_; rintro e w9 ⟨rfl, hb9⟩; rw [HU.out]; have x9 := cell_later hb9 x8)
            have G9 := Lib.hid (FA.out.1.later hb9)
            have M9 := Lib.hid (FA.out.2.1.stp (Stp.below hb9))
            clear hb9 x8
            refine (lgfree_any h7 r.1 gl l.a l.n l.size i _ _ l.last l.synced w9 G9.out.dk HOK7.out G9.out.lb OK.out.s64 (by have := HLE.out.2.1; have := OK.out.n64; omega) OK.out.a0 OK.out.am HPEN.out).mono ?_
            rintro e w10 ⟨rfl, h10, hd10, hs10⟩
            have G10 := Lib.hid (G9.out.stp hd10 hs10)
            have M10 := Lib.hid (M9.out.stp hs10)
            clear hd10 hs10 G9 M9 x9
            go_wp2_with fail
            refine (lgsync_any h10 _ gl l.a l.n l.size _ _ l.last l.synced w10 G10.out.dk (wFree_ok HOK7.out _ _) G10.out.lb).mono ?_
            rintro e w11 ⟨rfl, h11, hd11, hl11, hm11⟩
            have G11 := Lib.hid (G10.out.sync hd11 hl11 hm11)
            have M11 := Lib.hid (M10.out.mtp hm11)
            clear hd11 hl11 hm11 G10 M10
            go_wp2_with fail
            go_ret2
            refine ⟨by rw [E.out]; rfl, h11, ?_, M11.out⟩
            rw [E.out]
            exact ⟨_, _, G11.out⟩
      · apply And.intro
        · repeat (first | exact trivial | (refine ⟨Stays.is _, ?_⟩) | (refine ⟨Stays.bs _, ?_⟩) | (refine ⟨Stays.pg _ _ _, ?_⟩))
        · rfl
end Go.Proofs.YtojlldalhhibmaaDoor

namespace Go.Proofs.YtojlldalhhibmaaDoor
open Go
set_option linter.unusedVariables false

/-- From sector p on the bytes S lie, within size sectors. -/
def Lay (f : SF) (p : Int) (S : List UInt8) (size : Nat) : Prop := ∀ k, k < size → f (p + (k : Int)) = if 512 * k < S.length then some ((S.drop (512 * k)).take 512) else none
theorem Lay.bytes : ∀ (size : Nat) {f : SF} {p : Int} {S : List UInt8}, Lay f p S size → S.length ≤ 512 * size → wBytes f p size = S
  | 0, f, p, S, _, hs => by
    obtain rfl : S = [] := List.eq_nil_of_length_eq_zero (by omega)
    rfl
  | n + 1, f, p, S, h, hs => by
    have h0 := h 0 (by omega)
    simp only [Int.ofNat_zero, Int.add_zero, Nat.mul_zero, List.drop_zero] at h0
    by_cases hl : 0 < S.length
    · rw [if_pos hl] at h0
      by_cases h5 : S.length < 512
      · rw [wBytes_short h0 (by rw [List.length_take]; omega), List.take_of_length_le (by omega)]
      · rw [wBytes_full h0 (by rw [List.length_take]; omega)]
        have h2 : Lay f (p + 1) (S.drop 512) n := fun k hk => by
          have := h (k + 1) (by omega)
          rw [show p + 1 + (k : Int) = p + ((k + 1 : Nat) : Int) by omega, this, List.length_drop, List.drop_drop, show 512 + 512 * k = 512 * (k + 1) by omega]
          by_cases h6 : 512 * (k + 1) < S.length
          · rw [if_pos h6, if_pos (by omega)]
          · rw [if_neg h6, if_neg (by omega)]
        rw [Lay.bytes n h2 (by rw [List.length_drop]; omega), List.take_append_drop]
    · rw [if_neg hl] at h0
      rw [wBytes_none h0]
      exact (List.eq_nil_of_length_eq_zero (by omega)).symm
theorem Lay.congr {f g : SF} {p : Int} {S : List UInt8} {size : Nat} (h : Lay f p S size) (he : ∀ k, k < size → g (p + (k : Int)) = f (p + (k : Int))) : Lay g p S size := fun k hk => by rw [he k hk]; exact h k hk

/-! ### Records one behind the other -/
theorem numbered_len : ∀ (ts : List (List UInt8)) (f : Nat), (numbered f ts).length = ts.length
  | [], _ => rfl
  | t :: ts, f => by rw [numbered, List.length_cons, numbered_len ts, List.length_cons]
theorem numbered_append : ∀ (ts us : List (List UInt8)) (f : Nat), numbered f (ts ++ us) = numbered f ts ++ numbered (f + ts.length) us
  | [], us, f => by simp [numbered]
  | t :: ts, us, f => by
    rw [List.cons_append, numbered, numbered_append ts us, numbered, List.cons_append, List.length_cons, show f + 1 + ts.length = f + (ts.length + 1) by omega]
theorem allB_append : ∀ (ts us : List (List UInt8)) (f : Nat), allB f (ts ++ us) = allB f ts ++ allB (f + ts.length) us
  | [], us, f => by simp [allB]
  | t :: ts, us, f => by
    rw [List.cons_append, allB, allB_append ts us, allB, List.append_assoc, List.length_cons, show f + 1 + ts.length = f + (ts.length + 1) by omega]
theorem wholeB_all : ∀ (ts : List (List UInt8)) (f : Nat), wholeB f ts (allB f ts).length = (ts.length, (allB f ts).length)
  | [], f => rfl
  | t :: ts, f => by
    rw [wholeB, allB, List.length_append, if_pos (by omega), Nat.add_sub_cancel_left, wholeB_all ts]
    rfl
theorem recScan_all {ts : List (List UInt8)} {f : Nat} (ht : ∀ t ∈ ts, t.length ≤ 32768) : recScan (allB f ts).length (allB f ts) f = (numbered f ts, (allB f ts).length) := by
  have := recScan_cut ts f (allB f ts).length (allB f ts).length ht (Nat.le_refl _) (Nat.le_refl _)
  rw [List.take_length, wholeB_all] at this
  rw [this, ← numbered_len ts f, List.take_length]
theorem numbered_filter : ∀ (ts : List (List UInt8)) (f k : Nat), f + ts.length ≤ U64 → f ≤ k + 1 → (numbered f ts).filter (fun r => decide (k < r.1)) = (numbered f ts).drop (k + 1 - f)
  | [], f, k, _, _ => by simp [numbered]
  | t :: ts, f, k, hs, hf => by
    rw [List.length_cons] at hs
    have hm : f % U64 = f := Nat.mod_eq_of_lt (by omega)
    rw [numbered, List.filter_cons, hm]
    by_cases h : k < f
    · have e : k + 1 - f = 0 := by omega
      rw [if_pos (by simpa using h), e, List.drop_zero]
      congr 1
      rw [List.filter_eq_self]
      intro r hr
      have key : ∀ (ts : List (List UInt8)) (f : Nat), f + ts.length ≤ U64 → ∀ r ∈ numbered f ts, f ≤ r.1 := by
        intro ts
        induction ts with
        | nil => intro f _ r hr; cases hr
        | cons t ts ih =>
          intro f hs r hr
          rw [List.length_cons] at hs
          rw [numbered, List.mem_cons] at hr
          rcases hr with rfl | hr
          · rw [Nat.mod_eq_of_lt (by omega)]; exact Nat.le_refl _
          · have := ih (f + 1) (by omega) r hr; omega
      have := key ts (f + 1) (by omega) r hr
      simp
      omega
    · rw [if_neg (by simpa using h), numbered_filter ts (f + 1) k (by omega) (by omega), show k + 1 - f = (k + 1 - (f + 1)) + 1 by omega, List.drop_succ_cons]

/-! ### Segments with their bodies -/
structure Sb where
  at' : Nat
  base : Nat
  bs : List (List UInt8)
def Sb.sg (x : Sb) : Sg := ⟨x.at', x.base, x.bs.length⟩
def Sb.bytes (x : Sb) : List UInt8 := recB x.base titleB ++ allB x.base x.bs
def Sb.fd (x : Sb) : Fd := ⟨x.at', x.base, numbered x.base x.bs⟩
/-- Segments whose bases go on from f. -/
def Chn : Nat → List Sb → Prop
  | _, [] => True
  | f, x :: xs => x.base = f ∧ x.bs ≠ [] ∧ Chn (f + x.bs.length) xs
def endN : Nat → List Sb → Nat
  | f, [] => f
  | f, x :: xs => endN (f + x.bs.length) xs
def bods (l : List Sb) : List (List UInt8) := l.flatMap (·.bs)
theorem endN_eq : ∀ (l : List Sb) (f : Nat), endN f l = f + (bods l).length
  | [], f => by simp [endN, bods]
  | x :: xs, f => by
    rw [endN, endN_eq xs]
    simp [bods, List.flatMap_cons]
    omega
theorem Chn.append : ∀ (l m : List Sb) (f : Nat), Chn f (l ++ m) ↔ Chn f l ∧ Chn (endN f l) m
  | [], m, f => by simp [Chn, endN]
  | x :: xs, m, f => by
    rw [List.cons_append, Chn, Chn, endN, Chn.append xs m]
    constructor
    · rintro ⟨h1, h2, h3, h4⟩; exact ⟨⟨h1, h2, h3⟩, h4⟩
    · rintro ⟨⟨h1, h2, h3⟩, h4⟩; exact ⟨h1, h2, h3, h4⟩
theorem Chn.ge : ∀ (l : List Sb) (f : Nat), Chn f l → ∀ x ∈ l, f ≤ x.base ∧ x.base + x.bs.length ≤ endN f l
  | [], _, _, x, hx => by cases hx
  | y :: ys, f, h, x, hx => by
    obtain ⟨h1, h2, h3⟩ := h
    rcases List.mem_cons.1 hx with rfl | hx
    · rw [endN, endN_eq]; omega
    · have := Chn.ge ys _ h3 x hx
      rw [endN]
      omega
theorem pos_len {α : Type} {l : List α} (h : l ≠ []) : 0 < l.length := by
  cases l with
  | nil => exact (h rfl).elim
  | cons _ _ => simp
/-- Two bases that are one are of one segment. -/
theorem Chn.inj {l : List Sb} {f : Nat} (h : Chn f l) {x y : Sb} (hx : x ∈ l) (hy : y ∈ l) (e : x.base = y.base) : x = y := by
  induction l generalizing f with
  | nil => cases hx
  | cons z zs ih =>
    obtain ⟨h1, h2, h3⟩ := h
    have hz := pos_len h2
    rcases List.mem_cons.1 hx with hx' | hx'
    · rcases List.mem_cons.1 hy with hy' | hy'
      · rw [hx', hy']
      · have := (Chn.ge zs _ h3 y hy').1; rw [hx'] at e; omega
    · rcases List.mem_cons.1 hy with hy' | hy'
      · have := (Chn.ge zs _ h3 x hx').1; rw [hy'] at e; omega
      · exact ih h3 hx' hy'

/-- AN ORDERLY LOG: its segments with their bodies, and what the disk has of them. -/
structure Cl (l : Wl) (SB : List Sb) : Prop where
  live : l.live = SB.map Sb.sg
  chn : Chn 1 SB
  last : l.last + 1 = endN 1 SB
  small : endN 1 SB ≤ 1000000
  nd : (SB.map (·.at')).Nodup
  lt : ∀ x ∈ SB, x.at' < l.n
  bod : ∀ x ∈ SB, ∀ t ∈ x.bs, t.length ≤ 32768
  len : ∀ x ∈ SB, x.bytes.length ≤ 512 * l.size
  lay : ∀ x ∈ SB, Lay l.D.view (l.a + (x.at' : Int) * l.size) x.bytes l.size
  free : ∀ i, i < l.n → (∀ x ∈ SB, x.at' ≠ i) → Lay l.D.view (l.a + (i : Int) * l.size) [] l.size
  keys : ∀ y, (l.D.view y).isSome = true → l.a ≤ y ∧ y < l.a + (l.n : Int) * l.size
  str : l.stream = [] ∨ ∃ SB0 x, SB = SB0 ++ [x] ∧ l.stream = x.bytes
section
variable {l : Wl} {SB : List Sb}
theorem Sb.fd_len (x : Sb) : x.fd.recs.length = x.bs.length := numbered_len _ _
theorem Cl.base (c : Cl l SB) {x : Sb} (hx : x ∈ SB) : 1 ≤ x.base ∧ x.base + x.bs.length ≤ 1000000 := by
  have h1 := Chn.ge SB 1 c.chn x hx
  have h2 := c.small
  omega
theorem Cl.look (c : Cl l SB) {x : Sb} (hx : x ∈ SB) : wLook l.D.view l.a l.size x.at' = some (x.base, numbered x.base x.bs) := by
  have hb := c.base hx
  unfold wLook
  rw [Lay.bytes _ (c.lay x hx) (c.len x hx)]
  unfold wLookB Sb.bytes
  rw [recGet_put (by unfold U64; omega) (by decide)]
  simp only [if_true]
  rw [List.drop_left, recScan_all (c.bod x hx)]
theorem Cl.nolook (c : Cl l SB) {i : Nat} (hi : i < l.n) (h : ∀ x ∈ SB, x.at' ≠ i) : wLook l.D.view l.a l.size i = none := by
  unfold wLook
  rw [Lay.bytes _ (c.free i hi h) (by simp)]
  unfold wLookB
  rw [recGet_nil]
theorem wAll_has {f : SF} {a : Int} {size i q : Nat} {rs : List Rcd} (h : wLook f a size i = some (q, rs)) : ∀ {n}, i < n → (⟨i, q, rs⟩ : Fd) ∈ wAll f a size n
  | n + 1, hi => by
    rw [wAll_succ, List.mem_append]
    by_cases h2 : i = n
    · subst h2; right; rw [wCell_some h]; simp
    · exact .inl (wAll_has h (by omega))
theorem Cl.all (c : Cl l SB) (y : Fd) : y ∈ wAll l.D.view l.a l.size l.n ↔ ∃ x ∈ SB, y = x.fd := by
  constructor
  · intro h
    obtain ⟨h1, h2⟩ := wAll_mem h
    by_cases hx : ∃ x ∈ SB, x.at' = y.at'
    · obtain ⟨x, hx, e⟩ := hx
      have h3 := c.look hx
      rw [e, h2] at h3
      injection h3 with h3
      injection h3 with h3 h4
      refine ⟨x, hx, ?_⟩
      obtain ⟨y1, y2, y3⟩ := y
      simp only at e h3 h4
      unfold Sb.fd
      rw [e, h3, h4]
    · have h3 := c.nolook h1 (fun x hx' e => hx ⟨x, hx', e⟩)
      rw [h2] at h3
      cases h3
  · rintro ⟨x, hx, rfl⟩
    exact wAll_has (c.look hx) (c.lt x hx)
theorem Cl.fits (c : Cl l SB) {x : Sb} (hx : x ∈ SB) {k : Nat} (hk : k < 1000000) : x.fd.fits k = (decide (x.base ≤ k + 1) && decide (k + 1 ≤ x.base + x.bs.length)) := by
  have hb := c.base hx
  unfold Fd.fits
  rw [Sb.fd_len]
  show (decide (x.base ≤ (k + 1) % U64) && decide ((k + 1) % U64 ≤ (x.base + x.bs.length) % U64)) = _
  rw [Nat.mod_eq_of_lt (show k + 1 < U64 by unfold U64; omega), Nat.mod_eq_of_lt (show x.base + x.bs.length < U64 by unfold U64; omega)]
/-- The best of all is picked. -/
theorem wPick_best {frm : Nat} {x : Fd} : ∀ (l : List Fd) (b : Option Fd), (x ∈ l ∨ b = some x) → x.fits frm = true → (∀ y ∈ l, y.fits frm = true → y = x ∨ y.base < x.base) → (∀ y, b = some y → y = x ∨ y.base < x.base) → wPick frm l b = some x
  | [], b, hx, _, _, _ => by
    rcases hx with hx | hx
    · cases hx
    · rw [hx]; rfl
  | y :: ys, b, hx, hf, hl, hb => by
    rw [wPick_cons]
    by_cases hy : y = x
    · subst hy
      have hbb : wBest frm b y = some y := by
        by_cases hbx : b = some y
        · unfold wBest; split <;> simp [hbx]
        · unfold wBest
          have : betterB b y = true := by
            cases b with
            | none => rfl
            | some z =>
              rcases hb z rfl with h1 | h1
              · exact (hbx (by rw [h1])).elim
              · simp [betterB, h1]
          rw [hf, this]; simp
      rw [hbb]
      exact wPick_best ys _ (.inr rfl) hf (fun z hz => hl z (List.mem_cons_of_mem _ hz)) (fun z hz => by injection hz with hz; exact .inl hz.symm)
    · have hx2 : x ∈ ys ∨ b = some x := by
        rcases hx with hx | hx
        · rcases List.mem_cons.1 hx with h1 | h1
          · exact (hy h1.symm).elim
          · exact .inl h1
        · exact .inr hx
      refine wPick_best ys _ ?_ hf (fun z hz => hl z (List.mem_cons_of_mem _ hz)) ?_
      · rcases hx2 with h1 | h1
        · exact .inl h1
        · right
          unfold wBest
          by_cases hc : (y.fits frm && betterB b y) = true
          · simp only [Bool.and_eq_true] at hc
            have h2 := (hl y (List.mem_cons_self ..) hc.1).resolve_left hy
            have h3 := hc.2
            rw [h1] at h3
            simp [betterB] at h3
            omega
          · rw [if_neg hc]; exact h1
      · intro z hz
        unfold wBest at hz
        by_cases hc : (y.fits frm && betterB b y) = true
        · rw [if_pos hc] at hz
          injection hz with hz
          subst hz
          simp only [Bool.and_eq_true] at hc
          exact hl y (List.mem_cons_self ..) hc.1
        · rw [if_neg hc] at hz
          exact hb z hz
def goesB (live : List Sg) (last : Nat) (x : Fd) : Bool := decide (x.base = (last + 1) % U64) && !usedL live x.at'
theorem find_one {α : Type} {p : α → Bool} {l : List α} {x : α} (hx : x ∈ l) (hp : p x = true) (h : ∀ y ∈ l, p y = true → y = x) : l.find? p = some x := by
  cases hf : l.find? p with
  | none => have := List.find?_eq_none.1 hf x hx; rw [hp] at this; simp at this
  | some y => rw [h y (List.mem_of_find?_eq_some hf) (List.find?_some hf)]
end
end Go.Proofs.YtojlldalhhibmaaDoor

namespace Go.Proofs.YtojlldalhhibmaaDoor
open Go
set_option linter.unusedVariables false

theorem Chn.ne {l : List Sb} {f : Nat} (h : Chn f l) {x : Sb} (hx : x ∈ l) : x.bs ≠ [] := by
  induction l generalizing f with
  | nil => cases hx
  | cons y ys ih =>
    obtain ⟨h1, h2, h3⟩ := h
    rcases List.mem_cons.1 hx with rfl | hx'
    · exact h2
    · exact ih h3 hx'
section
variable {l : Wl} {SB : List Sb}
theorem Cl.sg (c : Cl l SB) {x : Sb} (hx : x ∈ SB) : x.fd.sg = x.sg := by
  have hb := c.base hx
  unfold Fd.sg Sb.sg
  rw [Sb.fd_len, Nat.mod_eq_of_lt (show x.bs.length < U64 by unfold U64; omega)]
  rfl
theorem Cl.fdlast (c : Cl l SB) {x : Sb} (hx : x ∈ SB) : x.fd.last = x.base + x.bs.length - 1 := by
  have hb := c.base hx
  unfold Fd.last
  rw [Sb.fd_len]
  show (x.base + x.bs.length + (U64 - 1)) % U64 = _
  rw [show x.base + x.bs.length + (U64 - 1) = (x.base + x.bs.length - 1) + U64 by unfold U64; omega, Nat.add_mod_right, Nat.mod_eq_of_lt (by unfold U64; omega)]
theorem Cl.go (c : Cl l SB) {x y : Sb} (hx : x ∈ SB) (hy : y ∈ SB) (live : List Sg) : goesB live x.fd.last y.fd = (decide (y.base = x.base + x.bs.length) && !usedL live y.at') := by
  have hb := c.base hx
  unfold goesB
  rw [c.fdlast hx, show x.base + x.bs.length - 1 + 1 = x.base + x.bs.length by omega, Nat.mod_eq_of_lt (show x.base + x.bs.length < U64 by unfold U64; omega)]
  rfl
theorem Cl.next (c : Cl l SB) {pre xs : List Sb} {x : Sb} (hS : SB = pre ++ x :: xs) {live : List Sb} (hl : ∀ z ∈ live, z ∈ pre ++ [x]) : wNext (wAll l.D.view l.a l.size l.n) (live.map Sb.sg) x.fd.last = xs.head?.map Sb.fd := by
  have hx : x ∈ SB := by rw [hS]; simp
  have hch := c.chn
  rw [hS, Chn.append] at hch
  obtain ⟨_, h1, h2, h3⟩ := hch
  cases xs with
  | nil =>
    show List.find? (goesB (live.map Sb.sg) x.fd.last) _ = none
    rw [List.find?_eq_none]
    intro y hy
    obtain ⟨z, hz, rfl⟩ := (c.all y).1 hy
    rw [c.go hx hz]
    have h4 := (Chn.ge SB 1 c.chn z hz).2
    have h5 := pos_len (c.chn.ne hz)
    have h6 : endN 1 SB = x.base + x.bs.length := by
      rw [hS, endN_eq]
      have h7 := endN_eq pre 1
      rw [h1]
      simp [bods]
      simp [bods] at h7
      omega
    have : ¬ z.base = x.base + x.bs.length := by omega
    simp [this]
  | cons y ys =>
    obtain ⟨h4, h5, h6⟩ := h3
    have hy : y ∈ SB := by rw [hS]; simp
    show List.find? (goesB (live.map Sb.sg) x.fd.last) _ = some y.fd
    refine find_one ((c.all _).2 ⟨y, hy, rfl⟩) ?_ ?_
    · rw [c.go hx hy]
      have hu : usedL (live.map Sb.sg) y.at' = false := by
        cases hu : usedL (live.map Sb.sg) y.at' with
        | false => rfl
        | true =>
          obtain ⟨s, hs, e⟩ := usedL_iff.1 hu
          obtain ⟨z, hz, rfl⟩ := List.mem_map.1 hs
          have hzp := hl z hz
          have hnd := c.nd
          rw [hS, show pre ++ x :: y :: ys = (pre ++ [x]) ++ y :: ys by simp, List.map_append, List.nodup_append] at hnd
          exact (hnd.2.2 z.at' (List.mem_map.2 ⟨z, hzp, rfl⟩) y.at' (by simp) e).elim
      rw [hu, h4, ← h1]
      simp
    · intro z hz hp
      obtain ⟨u, hu, rfl⟩ := (c.all z).1 hz
      rw [c.go hx hu] at hp
      simp only [Bool.and_eq_true, decide_eq_true_eq] at hp
      have : u = y := Chn.inj c.chn hu hy (by rw [hp.1, h4, ← h1])
      rw [this]
theorem wChain_cl (c : Cl l SB) (k : Nat) : ∀ (rest pre : List Sb) (fuel : Nat) (used : List Sb) (last : Nat) (out : List Rcd), SB = pre ++ rest → (∀ x ∈ used, x ∈ pre) → rest.length ≤ fuel →
    wChain (wAll l.D.view l.a l.size l.n) k fuel (used.map Sb.sg) last out (rest.head?.map Sb.fd) = ((used ++ rest).map Sb.sg, if rest = [] then last else l.last, out ++ rest.flatMap fun x => x.fd.recs.filter fun r => decide (k < r.1))
  | [], pre, fuel, used, last, out, hS, hu, hf => by
    simp only [List.head?_nil, Option.map_none, List.append_nil, if_true, List.flatMap_nil]
    cases fuel <;> rfl
  | x :: xs, pre, 0, used, last, out, hS, hu, hf => by simp at hf
  | x :: xs, pre, fuel + 1, used, last, out, hS, hu, hf => by
    have hx : x ∈ SB := by rw [hS]; simp
    have hS2 : SB = (pre ++ [x]) ++ xs := by rw [hS]; simp
    have hu2 : ∀ z ∈ used ++ [x], z ∈ pre ++ [x] := fun z hz => by
      rw [List.mem_append] at hz ⊢
      exact hz.imp (hu z) id
    have e : used.map Sb.sg ++ [x.fd.sg] = (used ++ [x]).map Sb.sg := by rw [c.sg hx]; simp
    simp only [List.head?_cons, Option.map_some]
    rw [wChain, e, c.next hS hu2, wChain_cl c k xs (pre ++ [x]) fuel (used ++ [x]) x.fd.last _ hS2 hu2 (by simpa using hf)]
    refine Prod.ext (by simp) (Prod.ext ?_ (by simp))
    simp only
    by_cases hxs : xs = []
    · subst hxs
      rw [if_pos rfl, if_neg (by simp), c.fdlast hx]
      have h6 : endN 1 SB = x.base + x.bs.length := by
        have hch := c.chn
        rw [hS, Chn.append] at hch
        obtain ⟨_, h1, h2, h3⟩ := hch
        rw [hS, endN_eq]
        have h7 := endN_eq pre 1
        rw [h1]
        simp [bods]
        simp [bods] at h7
        omega
      have := c.last
      omega
    · rw [if_neg hxs, if_neg (by simp)]
theorem Chn.split {k : Nat} : ∀ (SB : List Sb) (f : Nat), Chn f SB → SB ≠ [] → f ≤ k + 1 → ∃ SB1 x SB3, SB = SB1 ++ x :: SB3 ∧ x.base ≤ k + 1 ∧ ∀ y ∈ SB3, k + 1 < y.base
  | [], _, _, h, _ => (h rfl).elim
  | x :: xs, f, ⟨h1, h2, h3⟩, _, hf => by
    by_cases hxs : xs ≠ [] ∧ f + x.bs.length ≤ k + 1
    · obtain ⟨SB1, y, SB3, e, h5, h6⟩ := Chn.split xs _ h3 hxs.1 hxs.2
      exact ⟨x :: SB1, y, SB3, by rw [e]; rfl, h5, h6⟩
    · refine ⟨[], x, xs, rfl, by omega, fun y hy => ?_⟩
      have h4 := (Chn.ge xs _ h3 y hy).1
      by_cases h5 : xs = []
      · subst h5; cases hy
      · have : ¬ f + x.bs.length ≤ k + 1 := fun h6 => hxs ⟨h5, h6⟩
        omega
theorem Cl.count (c : Cl l SB) : SB.length ≤ l.n := by
  have := nodup_len l.n (SB.map (·.at')) c.nd (fun x hx => by
    obtain ⟨y, hy, rfl⟩ := List.mem_map.1 hx
    exact c.lt y hy)
  simpa using this
theorem flat_filter (k : Nat) : ∀ (l : List Sb), (l.flatMap fun x => x.fd.recs.filter fun r => decide (k < r.1)) = (l.flatMap fun x => x.fd.recs).filter fun r => decide (k < r.1)
  | [] => rfl
  | x :: xs => by rw [List.flatMap_cons, List.flatMap_cons, List.filter_append, flat_filter k xs]
theorem flat_numbered : ∀ (l : List Sb) (f : Nat), Chn f l → (l.flatMap fun x => x.fd.recs) = numbered f (bods l)
  | [], f, _ => rfl
  | x :: xs, f, ⟨h1, h2, h3⟩ => by
    have e : bods (x :: xs) = x.bs ++ bods xs := by simp [bods]
    rw [List.flatMap_cons, flat_numbered xs _ h3, e, numbered_append]
    show numbered x.base x.bs ++ _ = _
    rw [h1]
/-- WHAT IS FOUND from k on. -/
theorem wOpen_cl (c : Cl l SB) {k : Nat} (hk : k ≤ l.last) : ∃ SB1 SB2, SB = SB1 ++ SB2 ∧ (SB ≠ [] → SB2 ≠ []) ∧ (wOpen l.D l.a l.n l.size k).1.live = SB2.map Sb.sg ∧ (wOpen l.D l.a l.n l.size k).1.last = l.last ∧ (wOpen l.D l.a l.n l.size k).1.synced = l.last ∧
    (wOpen l.D l.a l.n l.size k).2 = (numbered 1 (bods SB)).drop k := by
  have hsm := c.small
  have hla := c.last
  have key : ∃ SB1 SB2, SB = SB1 ++ SB2 ∧ (SB ≠ [] → SB2 ≠ []) ∧ wPick k (wAll l.D.view l.a l.size l.n) none = SB2.head?.map Sb.fd ∧ (SB2 = [] → l.last = k) ∧ (SB2.flatMap fun x => x.fd.recs.filter fun r => decide (k < r.1)) = (numbered 1 (bods SB)).drop k := by
    by_cases hS : SB = []
    · have hall : wAll l.D.view l.a l.size l.n = [] := by
        cases hw : wAll l.D.view l.a l.size l.n with
        | nil => rfl
        | cons y ys =>
          obtain ⟨x, hx, _⟩ := (c.all y).1 (by rw [hw]; simp)
          rw [hS] at hx; cases hx
      refine ⟨[], [], by simpa using hS, fun h => (h hS).elim, by rw [hall]; rfl, fun _ => ?_, by rw [hS]; simp [bods, numbered]⟩
      rw [hS] at hla
      simp [endN] at hla
      omega
    · obtain ⟨SB1, x, SB3, e, h1, h2⟩ := Chn.split SB 1 c.chn hS (Nat.le_add_left 1 k)
      have hx : x ∈ SB := by rw [e]; simp
      have hch := c.chn
      rw [e, Chn.append] at hch
      obtain ⟨c1, hx1, hx2, c3⟩ := hch
      have hbl : endN 1 SB1 = 1 + (bods SB1).length := endN_eq SB1 1
      have hend : k + 1 ≤ x.base + x.bs.length := by
        cases SB3 with
        | nil =>
          have : endN 1 SB = x.base + x.bs.length := by
            rw [e, endN_eq]
            have h7 := endN_eq SB1 1
            rw [hx1]
            simp [bods]
            simp [bods] at h7
            omega
          omega
        | cons y ys =>
          have := h2 y (by simp)
          have h4 := c3.1
          omega
      refine ⟨SB1, x :: SB3, e, fun _ => by simp, ?_, fun h => by simp at h, ?_⟩
      · refine wPick_best _ none (.inl ((c.all _).2 ⟨x, hx, rfl⟩)) ?_ ?_ (fun y h => by cases h)
        · rw [c.fits hx (by omega)]
          simp
          omega
        · intro y hy hf
          obtain ⟨z, hz, rfl⟩ := (c.all y).1 hy
          rw [c.fits hz (by omega)] at hf
          simp only [Bool.and_eq_true, decide_eq_true_eq] at hf
          have hz2 := hz
          rw [e, List.mem_append, List.mem_cons] at hz2
          rcases hz2 with h5 | rfl | h5
          · right
            have := (Chn.ge SB1 1 c1 z h5).2
            have := pos_len (c.chn.ne hz)
            show z.base < x.base
            omega
          · exact .inl rfl
          · have := h2 z h5; omega
      · have hc : Chn x.base (x :: SB3) := ⟨rfl, hx2, by rw [hx1]; exact c3⟩
        rw [flat_filter, flat_numbered _ _ hc, numbered_filter _ _ _ (by
          have h8 := endN_eq (x :: SB3) x.base
          have h9 : endN x.base (x :: SB3) = endN 1 SB := by
            rw [e, endN_eq, endN_eq, hx1, hbl]
            simp [bods]
            omega
          unfold U64
          omega) h1, e]
        have e2 : bods (SB1 ++ x :: SB3) = bods SB1 ++ bods (x :: SB3) := by simp [bods]
        have e3 : x.base = 1 + (bods SB1).length := by rw [hx1, hbl]
        have e5 : List.drop k (numbered 1 (bods SB1)) = [] := List.drop_eq_nil_of_le (by rw [numbered_len]; omega)
        rw [e2, numbered_append, List.drop_append, numbered_len, e5, List.nil_append, ← e3, show k + 1 - x.base = k - (bods SB1).length by omega]
  obtain ⟨SB1, SB2, e, hne, hp, hz, hr⟩ := key
  have hlen : SB2.length ≤ l.n + 1 := by
    have := c.count
    rw [e, List.length_append] at this
    omega
  have hw := wChain_cl c k SB2 SB1 (l.n + 1) [] k [] e (fun x h => by cases h) hlen
  rw [← hp, List.nil_append, List.nil_append, hr] at hw
  have hlast : max (if SB2 = [] then k else l.last) k = l.last := by
    by_cases h9 : SB2 = []
    · rw [if_pos h9, hz h9]; simp
    · rw [if_neg h9]; exact Nat.max_eq_left hk
  refine ⟨SB1, SB2, e, hne, ?_, ?_, ?_, ?_⟩
  · unfold wOpen; simp only [List.map_nil] at hw; simp only [hw, Wl.sync]
  · unfold wOpen; simp only [List.map_nil] at hw; simp only [hw, Wl.sync]; exact hlast
  · unfold wOpen; simp only [List.map_nil] at hw; simp only [hw, Wl.sync]; exact hlast
  · unfold wOpen; simp only [List.map_nil] at hw; simp only [hw]
end
end Go.Proofs.YtojlldalhhibmaaDoor

namespace Go.Proofs.YtojlldalhhibmaaDoor
open Go
set_option linter.unusedVariables false

theorem nodup_map_on {α β : Type} {f : α → β} : ∀ (l : List α), (∀ x ∈ l, ∀ y ∈ l, f x = f y → x = y) → l.Nodup → (l.map f).Nodup
  | [], _, _ => by simp
  | x :: xs, h, hd => by
    rw [List.map_cons, List.nodup_cons]
    rw [List.nodup_cons] at hd
    refine ⟨fun hm => ?_, nodup_map_on xs (fun y hy z hz => h y (List.mem_cons_of_mem _ hy) z (List.mem_cons_of_mem _ hz)) hd.2⟩
    obtain ⟨y, hy, e⟩ := List.mem_map.1 hm
    have := h y (List.mem_cons_of_mem _ hy) x (List.mem_cons_self ..) e
    subst this
    exact hd.1 hy
/-- Where there is room for one more. -/
theorem FinK.room {f : SF} {n : Nat} (h : FinK f n) {lo x : Int} {M : Nat} (hk : ∀ y, (f y).isSome = true → lo ≤ y ∧ y < lo + M) (hx : f x = none) (h1 : lo ≤ x) (h2 : x < lo + M) : n < M := by
  obtain ⟨ls, hf, _⟩ := h
  have hnot : x ∉ ls.map (·.1) := fun hm => by
    have := (hf.has x).2 hm
    rw [hx] at this
    cases this
  have hin : ∀ y ∈ x :: ls.map (·.1), lo ≤ y ∧ y < lo + M := fun y hy => by
    rcases List.mem_cons.1 hy with rfl | hy
    · exact ⟨h1, h2⟩
    · exact hk y ((hf.has y).2 hy)
  have h3 := nodup_len M ((x :: ls.map (·.1)).map fun y => (y - lo).toNat) (nodup_map_on _ (fun y hy z hz e => by
    have := hin y hy
    have := hin z hz
    omega) (List.nodup_cons.2 ⟨hnot, hf.nodup⟩)) (fun y hy => by
    obtain ⟨z, hz, rfl⟩ := List.mem_map.1 hy
    have := hin z hz
    omega)
  rw [List.length_map, List.length_cons, List.length_map, hf.len] at h3
  omega
theorem why_none {D : Dsk} (hD : D.Ok) {lo x : Int} {M : Nat} {b : List UInt8} (hk : ∀ y, (D.view y).isSome = true → lo ≤ y ∧ y < lo + M) (h0 : 0 ≤ lo) (hs : lo + M ≤ D.size) (hl : (M : Int) ≤ D.limit) (h1 : lo ≤ x) (h2 : x < lo + M) (hb : b.length ≤ 512) : D.why x b = 0 := by
  unfold Dsk.why
  rw [if_neg (by omega), if_neg (by omega), if_neg]
  rintro ⟨h3, h4⟩
  have := hD.view.room hk (by simpa using h3) h1 h2
  omega
/-- Ahead of sector k the new bytes lie, from there on the old ones. -/
structure Mid (D0 D : Dsk) (lo : Int) (M : Nat) (p : Int) (size : Nat) (s b : List UInt8) (k : Nat) : Prop where
  view : ∀ j, j < size → D.view (p + (j : Int)) = if j < k then (if 512 * j < b.length then some ((b.drop (512 * j)).take 512) else none) else (if 512 * j < s.length then some ((s.drop (512 * j)).take 512) else none)
  out : ∀ x, (x < p ∨ p + (size : Int) ≤ x) → D.view x = D0.view x
  keys : ∀ y, (D.view y).isSome = true → lo ≤ y ∧ y < lo + M
  ok : D.Ok
  lim : D.limit = D0.limit
  siz : D.size = D0.size
theorem wPut_lay {D0 : Dsk} {lo : Int} {M : Nat} {p : Int} {size : Nat} {s t : List UInt8} (h0 : 0 ≤ lo) (hs : lo + M ≤ D0.size) (hl : (M : Int) ≤ D0.limit) (hp : lo ≤ p) (hp2 : p + (size : Int) ≤ lo + M) (hb : (s ++ t).length ≤ 512 * size) :
    ∀ (m k : Nat) (D : Dsk), (s ++ t).length ≤ 512 * (k + m) → s.length < 512 * (k + 1) → Mid D0 D lo M p size s (s ++ t) k →
      ∃ D', wPut D p (s ++ t) m k = (D', 0) ∧ Lay D'.view p (s ++ t) size ∧ (∀ x, (x < p ∨ p + (size : Int) ≤ x) → D'.view x = D0.view x) ∧ (∀ y, (D'.view y).isSome = true → lo ≤ y ∧ y < lo + M) ∧ D'.Ok ∧ D'.limit = D0.limit ∧ D'.size = D0.size
  | m, k, D, hm, hk, c => by
    by_cases hlt : 512 * k < (s ++ t).length
    · match m with
      | 0 => omega
      | m + 1 =>
        have hks : k < size := by omega
        have hc : (((s ++ t).drop (512 * k)).take 512).length ≤ 512 := by rw [List.length_take]; omega
        have hw : D.why (p + (k : Int)) (((s ++ t).drop (512 * k)).take 512) = 0 := why_none c.ok c.keys h0 (by rw [c.siz]; exact hs) (by rw [c.lim]; exact hl) (by omega) (by omega) hc
        have hD : D.write (p + (k : Int)) (((s ++ t).drop (512 * k)).take 512) = D.put (.wr (p + (k : Int)) (((s ++ t).drop (512 * k)).take 512)) (((s ++ t).drop (512 * k)).take 512).length := by unfold Dsk.write; rw [if_pos hw]
        have hv : ∀ x, (D.write (p + (k : Int)) (((s ++ t).drop (512 * k)).take 512)).view x = if x = p + (k : Int) then some (((s ++ t).drop (512 * k)).take 512) else D.view x := fun x => by
          rw [hD]
          show (D.view.put _ (tornB _ _ _)) x = _
          rw [tornB_all]
          rfl
        have hwr : wPut D p (s ++ t) (m + 1) k = wPut (D.write (p + (k : Int)) (((s ++ t).drop (512 * k)).take 512)) p (s ++ t) m (k + 1) := by rw [wPut, if_pos hlt, if_pos hw]
        rw [hwr]
        refine wPut_lay h0 hs hl hp hp2 hb m (k + 1) _ (by omega) (by omega) ⟨fun j hj => ?_, fun x hx => ?_, fun y hy => ?_, c.ok.write _ _, ?_, ?_⟩
        · rw [hv]
          by_cases hjk : j = k
          · subst hjk
            rw [if_pos rfl, if_pos (by omega), if_pos hlt]
          · rw [if_neg (by omega), c.view j hj]
            by_cases h5 : j < k
            · have h6 : j < k + 1 := by omega
              rw [if_pos h5, if_pos h6]
            · have h6 : ¬ j < k + 1 := by omega
              rw [if_neg h5, if_neg h6]
        · rw [hv, if_neg (by omega)]
          exact c.out x hx
        · rw [hv] at hy
          by_cases hyk : y = p + (k : Int)
          · omega
          · rw [if_neg hyk] at hy
            exact c.keys y hy
        · rw [hD]; exact c.lim
        · rw [hD]; exact c.siz
    · have he : wPut D p (s ++ t) m k = (D, 0) := by
        cases m with
        | zero => rfl
        | succ m => rw [wPut, if_neg hlt]
      refine ⟨D, he, fun j hj => ?_, c.out, c.keys, c.ok, c.lim, c.siz⟩
      rw [c.view j hj]
      by_cases h5 : j < k
      · rw [if_pos h5]
      · have h6 : s.length ≤ (s ++ t).length := by simp
        rw [if_neg h5, if_neg (by omega), if_neg (by omega)]
theorem Mid.start {D0 : Dsk} {lo : Int} {M : Nat} {p : Int} {size : Nat} {s t : List UInt8} (hD : D0.Ok) (hl : Lay D0.view p s size) (hk : ∀ y, (D0.view y).isSome = true → lo ≤ y ∧ y < lo + M) : Mid D0 D0 lo M p size s (s ++ t) (s.length / 512) := by
  refine ⟨fun j hj => ?_, fun _ _ => rfl, hk, hD, rfl, rfl⟩
  rw [hl j hj]
  by_cases h5 : j < s.length / 512
  · have h6 : 512 * j + 512 ≤ s.length := by omega
    rw [if_pos h5, if_pos (by omega), if_pos (by rw [List.length_append]; omega), List.drop_append_of_le_length (by omega), List.take_append_of_le_length (by rw [List.length_drop]; omega)]
  · rw [if_neg h5]
/-- Not more writes than sectors. -/
theorem wPut_pend2 (p : Int) (b : List UInt8) (m k : Nat) (D : Dsk) : (wPut D p b m k).1.pend.length ≤ D.pend.length + m := by
  induction m generalizing k D with
  | zero => rw [wPut]; simp
  | succ m ih =>
    rw [wPut]
    split
    · split
      · have h1 := ih (k + 1) (D.write (p + (k : Int)) ((b.drop (512 * k)).take 512))
        have h2 := dwrite_pend D (p + (k : Int)) ((b.drop (512 * k)).take 512)
        omega
      · simp
    · simp
/-- There is room on the disk for the whole log. -/
structure Roomy (l : Wl) : Prop where
  hi : l.a + (l.n : Int) * l.size ≤ l.D.size
  lim : (l.n : Int) * l.size ≤ l.D.limit
theorem seg_in {a : Int} {n size i : Nat} (hi : i < n) : a ≤ a + (i : Int) * size ∧ a + (i : Int) * size + size ≤ a + (n : Int) * size := by
  have h1 : i * size + size ≤ n * size := by
    have := Nat.mul_le_mul_right size (show i + 1 ≤ n by omega)
    rw [Nat.add_mul, Nat.one_mul] at this
    exact this
  have e1 : ((i * size : Nat) : Int) = (i : Int) * size := by push_cast; rfl
  have e2 : ((n * size : Nat) : Int) = (n : Int) * size := by push_cast; rfl
  omega
theorem seg_out {a : Int} {size i j k : Nat} (hij : i ≠ j) (hk : k < size) : a + (j : Int) * size + k < a + (i : Int) * size ∨ a + (i : Int) * size + size ≤ a + (j : Int) * size + k := by
  have e1 : ((i * size : Nat) : Int) = (i : Int) * size := by push_cast; rfl
  have e2 : ((j * size : Nat) : Int) = (j : Int) * size := by push_cast; rfl
  rcases Nat.lt_or_gt_of_ne hij with h | h
  · have := Nat.mul_le_mul_right size (show i + 1 ≤ j by omega)
    rw [Nat.add_mul, Nat.one_mul] at this
    omega
  · have := Nat.mul_le_mul_right size (show j + 1 ≤ i by omega)
    rw [Nat.add_mul, Nat.one_mul] at this
    omega

section
variable {l : Wl} {SB : List Sb}
theorem Cl.sync (c : Cl l SB) : Cl l.sync SB := ⟨c.live, c.chn, c.last, c.small, c.nd, c.lt, c.bod, c.len, c.lay, c.free, c.keys, c.str⟩
/-- The segment that a record goes to, its bytes and bodies so far. -/
theorem Cl.put (c : Cl l SB) (ok : l.Ok) (r : Roomy l) {i : Nat} (hi : i < l.n) {s b : List UInt8} (hs : Lay l.D.view (l.a + (i : Int) * l.size) s l.size) (hb : (s ++ b).length ≤ 512 * l.size) :
    ∃ D', wPut l.D (l.a + (i : Int) * l.size) (s ++ b) (s ++ b).length (s.length / 512) = (D', 0) ∧ Lay D'.view (l.a + (i : Int) * l.size) (s ++ b) l.size ∧
      (∀ j, j ≠ i → ∀ S, Lay l.D.view (l.a + (j : Int) * l.size) S l.size → Lay D'.view (l.a + (j : Int) * l.size) S l.size) ∧ (∀ y, (D'.view y).isSome = true → l.a ≤ y ∧ y < l.a + (l.n : Int) * l.size) ∧ D'.Ok ∧ D'.limit = l.D.limit ∧ D'.size = l.D.size := by
  have hin := seg_in (a := l.a) (size := l.size) hi
  have eM : ((l.n * l.size : Nat) : Int) = (l.n : Int) * l.size := by push_cast; rfl
  have h1 := r.hi
  have h2 := r.lim
  obtain ⟨D', h3, h4, h5, h6, h7, h8, h9⟩ := wPut_lay (D0 := l.D) (lo := l.a) (M := l.n * l.size) (p := l.a + (i : Int) * l.size) (size := l.size) (s := s) (t := b) ok.a0 (by omega) (by omega) (by omega) (by omega) hb (s ++ b).length (s.length / 512) l.D (by omega) (by omega) (Mid.start ok.dok hs (fun y hy => by have := c.keys y hy; omega))
  exact ⟨D', h3, h4, fun j hj S hS => hS.congr fun k hk => h5 _ (seg_out (a := l.a) (fun e => hj e.symm) hk), fun y hy => by have := h6 y hy; omega, h7, h8, h9⟩
theorem usedL_sb {i : Nat} : usedL (SB.map Sb.sg) i = false ↔ ∀ x ∈ SB, x.at' ≠ i := by
  constructor
  · intro h x hx e
    have : usedL (SB.map Sb.sg) i = true := usedL_iff.2 ⟨x.sg, List.mem_map.2 ⟨x, hx, rfl⟩, e⟩
    rw [h] at this
    cases this
  · intro h
    cases hu : usedL (SB.map Sb.sg) i with
    | false => rfl
    | true =>
      obtain ⟨s, hs, e⟩ := usedL_iff.1 hu
      obtain ⟨x, hx, rfl⟩ := List.mem_map.1 hs
      exact (h x hx e).elim
/-- What Append makes of an orderly log. -/
structure ApCl (l : Wl) (SB : List Sb) (t : List UInt8) (l' : Wl) (SB' : List Sb) : Prop where
  cl : Cl l' SB'
  bods : bods SB' = bods SB ++ [t]
  room : Roomy l'
  pend : l'.D.pend.length ≤ l.D.pend.length + 512 * l.size
  par : l'.a = l.a ∧ l'.n = l.n ∧ l'.size = l.size ∧ l'.synced = l.synced
  str : l'.stream ≠ []
  len : SB'.length ≤ SB.length + 1
  same : (l.stream ≠ [] ∧ l.stream.length + (recB (l.last + 1) t).length ≤ 512 * l.size) → SB'.length = SB.length
  slen : l'.stream.length ≤ l.stream.length + (recB (l.last + 1) titleB).length + (recB (l.last + 1) t).length
theorem Cl.append (c : Cl l SB) (ok : l.Ok) (r : Roomy l) (t : List UInt8) (hN : endN 1 SB < 1000000) :
    (((wAppend l t).2.2 = 81 ∨ (wAppend l t).2.2 = 82) ∧ (wAppend l t).1 = l ∧ (wAppend l t).2.1 = 0 ∧ ((wAppend l t).2.2 = 81 ↔ (32768 < t.length ∨ 512 * l.size < (recB (l.last + 1) titleB).length + (recB (l.last + 1) t).length)) ∧
      ((wAppend l t).2.2 = 82 → (l.stream = [] ∨ 512 * l.size < l.stream.length + (recB (l.last + 1) t).length) ∧ wFresh l.live l.n = none)) ∨
    ((wAppend l t).2 = (endN 1 SB, 0) ∧ ∃ SB', ApCl l SB t (wAppend l t).1 SB') := by
  have hla := c.last
  have hq : endN 1 SB = (l.last + 1) % U64 := by rw [hla, Nat.mod_eq_of_lt (by unfold U64; omega)]
  obtain ⟨q, hq9⟩ : ∃ q, q = endN 1 SB := ⟨_, rfl⟩
  have hqq : q = (l.last + 1) % U64 := by rw [hq9]; exact hq
  have hql : q = l.last + 1 := by omega
  obtain ⟨head, hh⟩ : ∃ head, head = recB q titleB := ⟨_, rfl⟩
  obtain ⟨b, hb⟩ : ∃ b, b = recB q t := ⟨_, rfl⟩
  by_cases hlong : 32768 < t.length ∨ 512 * l.size < head.length + b.length
  · left
    have e : wAppend l t = (l, 0, 81) := by subst hh hb; rw [hqq] at hlong; unfold wAppend; rw [if_pos hlong]
    rw [e]
    refine ⟨.inl rfl, rfl, rfl, ⟨fun _ => ?_, fun _ => rfl⟩, fun h => (by cases h)⟩
    rw [← hql, ← hh, ← hb]
    exact hlong
  have ht : t.length ≤ 32768 := by omega
  have hbq : b = recB (q % U64) t := by rw [hb, hqq, Nat.mod_mod]
  by_cases hfr : l.stream = [] ∨ 512 * l.size < l.stream.length + b.length
  · cases hw : wFresh l.live l.n with
    | none =>
      left
      have e : wAppend l t = (l, 0, 82) := by subst hh hb; rw [hqq] at hlong hfr; unfold wAppend; rw [if_neg hlong, if_pos hfr, hw]
      rw [e]
      refine ⟨.inr rfl, rfl, rfl, ⟨fun h => (by cases h), fun h => ?_⟩, fun _ => ⟨?_, rfl⟩⟩
      · rw [← hql, ← hh, ← hb] at h
        exact (hlong h).elim
      · rw [← hql, ← hb]
        exact hfr
    | some i =>
      right
      obtain ⟨hi, hu⟩ := wFresh_some hw
      rw [c.live, usedL_sb] at hu
      have hlen : ([] ++ (head ++ b)).length ≤ 512 * l.size := by rw [List.nil_append, List.length_append]; omega
      obtain ⟨D', h3, h4, h5, h6, h7, h8, h9⟩ := c.put ok r hi (c.free i hi hu) hlen
      rw [List.nil_append] at h3 h4
      have ac : ApC l q head b (l.live ++ [⟨i, q, 0⟩]) head i true := ⟨fun _ => ⟨hfr, hw, rfl, rfl⟩, fun e => by cases e⟩
      have hpn := wPut_pend2 (l.a + (i : Int) * l.size) (head ++ b) (head ++ b).length 0 l.D
      simp only [List.length_nil, Nat.zero_div] at h3
      rw [h3] at hpn
      have e := wAppend_ok hqq hh hb hlong ac (r := (D', 0)) (by simp only [apFrom, if_true, Nat.zero_div]; exact h3) rfl
      rw [e, bumpL_snoc]
      have hby : (⟨i, q, [t]⟩ : Sb).bytes = head ++ b := by
        show recB q titleB ++ (recB (q % U64) t ++ []) = _
        rw [List.append_nil, ← hh, ← hbq]
      refine ⟨by rw [hq9], SB ++ [⟨i, q, [t]⟩], ⟨⟨?_, ?_, ?_, ?_, ?_, ?_, ?_, ?_, ?_, ?_, h6, ?_⟩, ?_, ⟨by rw [show (_ : Wl).D.size = l.D.size from h9]; exact r.hi, by rw [show (_ : Wl).D.limit = l.D.limit from h8]; exact r.lim⟩, ?_, ⟨rfl, rfl, rfl, rfl⟩, ?_, by simp, ?_, ?_⟩⟩
      · rw [List.map_append, ← c.live]; rfl
      · rw [Chn.append]; exact ⟨c.chn, by rw [← hq9], by simp, trivial⟩
      · rw [endN_eq, bods, List.flatMap_append]
        have := endN_eq SB 1
        simp [bods] at this ⊢
        show q + 1 = _
        omega
      · rw [endN_eq, bods, List.flatMap_append]
        have := endN_eq SB 1
        simp [bods] at this ⊢
        omega
      · rw [List.map_append, List.nodup_append]
        refine ⟨c.nd, by simp, fun x hx y hy e2 => ?_⟩
        simp only [List.map_cons, List.map_nil, List.mem_singleton] at hy
        obtain ⟨z, hz, e3⟩ := List.mem_map.1 hx
        exact hu z hz (e3.trans (e2.trans hy))
      · intro x hx
        rw [List.mem_append, List.mem_singleton] at hx
        rcases hx with hx | rfl
        · exact c.lt x hx
        · exact hi
      · intro x hx
        rw [List.mem_append, List.mem_singleton] at hx
        rcases hx with hx | rfl
        · exact c.bod x hx
        · intro u hu2
          simp only [List.mem_singleton] at hu2
          rw [hu2]; exact ht
      · intro x hx
        rw [List.mem_append, List.mem_singleton] at hx
        rcases hx with hx | rfl
        · exact c.len x hx
        · rw [hby]; rw [List.nil_append] at hlen; exact hlen
      · intro x hx
        rw [List.mem_append, List.mem_singleton] at hx
        rcases hx with hx | rfl
        · exact h5 _ (fun e2 => hu x hx e2) _ (c.lay x hx)
        · rw [hby]; exact h4
      · intro j hj hne
        refine h5 j (fun e2 => hne ⟨i, q, [t]⟩ (by simp) e2.symm) _ (c.free j hj fun x hx => hne x (by simp [hx]))
      · exact .inr ⟨SB, _, rfl, hby.symm⟩
      · rw [bods, List.flatMap_append]; simp [bods]
      · rw [List.length_append] at hpn
        simp only at hpn ⊢
        rw [List.nil_append, List.length_append] at hlen
        omega
      · intro e2
        have := congrArg List.length e2
        rw [List.length_append, hh, recB_len] at this
        simp at this
      · intro ⟨e2, e3⟩
        rw [← hql, ← hb] at e3
        rcases hfr with h | h
        · exact (e2 h).elim
        · omega
      · rw [← hql, ← hh, ← hb, List.length_append]; omega
  · right
    have hst : l.stream ≠ [] := fun e => hfr (.inl e)
    obtain ⟨SB0, x, hS, hx⟩ := c.str.resolve_left hst
    have hxm : x ∈ SB := by rw [hS]; simp
    have hlast : l.live = SB0.map Sb.sg ++ [x.sg] := by rw [c.live, hS]; simp
    have hat : ((l.live.getLast?).map (·.at')).getD 0 = x.at' := by rw [hlast]; simp; rfl
    have hlen : (x.bytes ++ b).length ≤ 512 * l.size := by rw [List.length_append, ← hx]; omega
    obtain ⟨D', h3, h4, h5, h6, h7, h8, h9⟩ := c.put ok r (c.lt x hxm) (c.lay x hxm) hlen
    have ac : ApC l q head b l.live l.stream x.at' false := ⟨fun e => (by cases e), fun _ => ⟨hfr, rfl, rfl, hat⟩⟩
    have hpn := wPut_pend2 (l.a + (x.at' : Int) * l.size) (x.bytes ++ b) (x.bytes ++ b).length (x.bytes.length / 512) l.D
    rw [h3] at hpn
    have e := wAppend_ok hqq hh hb hlong ac (r := (D', 0)) (by simp only [apFrom, Bool.false_eq_true, if_false, hx]; exact h3) rfl
    rw [e, hlast, bumpL_snoc]
    have hch := c.chn
    rw [hS, Chn.append] at hch
    obtain ⟨c1, c2, c3, _⟩ := hch
    have hend : endN 1 SB = x.base + x.bs.length := by
      rw [hS, endN_eq]
      have h7 := endN_eq SB0 1
      rw [c2]
      simp [bods]
      simp [bods] at h7
      omega
    have hby : (⟨x.at', x.base, x.bs ++ [t]⟩ : Sb).bytes = x.bytes ++ b := by
      show recB x.base titleB ++ allB x.base (x.bs ++ [t]) = _
      rw [allB_append, ← hend, ← hq9]
      show recB x.base titleB ++ (allB x.base x.bs ++ (recB (q % U64) t ++ [])) = _
      rw [List.append_nil, ← hbq, ← List.append_assoc]
      rfl
    have hcnt : (x.bs.length + 1) % U64 = x.bs.length + 1 := Nat.mod_eq_of_lt (by have := c.base hxm; unfold U64; omega)
    have hnx : ∀ y ∈ SB0, y.at' ≠ x.at' := fun y hy e2 => by
      have hnd := c.nd
      rw [hS, List.map_append, List.nodup_append] at hnd
      exact hnd.2.2 y.at' (List.mem_map.2 ⟨y, hy, rfl⟩) x.at' (by simp) e2
    refine ⟨by rw [hq9], SB0 ++ [⟨x.at', x.base, x.bs ++ [t]⟩], ⟨⟨?_, ?_, ?_, ?_, ?_, ?_, ?_, ?_, ?_, ?_, h6, ?_⟩, ?_, ⟨by rw [show (_ : Wl).D.size = l.D.size from h9]; exact r.hi, by rw [show (_ : Wl).D.limit = l.D.limit from h8]; exact r.lim⟩, ?_, ⟨rfl, rfl, rfl, rfl⟩, ?_, ?_, fun _ => ?_, ?_⟩⟩
    · rw [List.map_append]
      show _ ++ [(⟨x.at', x.base, (x.bs.length + 1) % U64⟩ : Sg)] = _ ++ [(⟨x.at', x.base, (x.bs ++ [t]).length⟩ : Sg)]
      rw [hcnt, List.length_append, List.length_singleton]
    · rw [Chn.append]; exact ⟨c1, c2, by simp, trivial⟩
    · have h7 := endN_eq SB 1
      rw [endN_eq]
      rw [hS] at h7
      simp [bods] at h7 ⊢
      rw [← hS] at h7
      show q + 1 = _
      omega
    · have h7 := endN_eq SB 1
      rw [endN_eq]
      rw [hS] at h7
      simp [bods] at h7 ⊢
      rw [← hS] at h7
      omega
    · have := c.nd
      rw [hS] at this
      simpa using this
    · intro y hy
      rw [List.mem_append, List.mem_singleton] at hy
      rcases hy with hy | rfl
      · exact c.lt y (by rw [hS]; simp [hy])
      · exact c.lt x hxm
    · intro y hy
      rw [List.mem_append, List.mem_singleton] at hy
      rcases hy with hy | rfl
      · exact c.bod y (by rw [hS]; simp [hy])
      · intro u hu2
        simp only [List.mem_append, List.mem_singleton] at hu2
        rcases hu2 with hu2 | rfl
        · exact c.bod x hxm u hu2
        · exact ht
    · intro y hy
      rw [List.mem_append, List.mem_singleton] at hy
      rcases hy with hy | rfl
      · exact c.len y (by rw [hS]; simp [hy])
      · rw [hby]; exact hlen
    · intro y hy
      rw [List.mem_append, List.mem_singleton] at hy
      rcases hy with hy | rfl
      · exact h5 _ (hnx y hy) _ (c.lay y (by rw [hS]; simp [hy]))
      · rw [hby]; exact h4
    · intro j hj hne
      refine h5 j (fun e2 => hne ⟨x.at', x.base, x.bs ++ [t]⟩ (by simp) e2.symm) _ (c.free j hj fun y hy => ?_)
      rw [hS, List.mem_append, List.mem_singleton] at hy
      rcases hy with hy | rfl
      · exact hne y (by simp [hy])
      · exact hne ⟨y.at', y.base, y.bs ++ [t]⟩ (by simp)
    · exact .inr ⟨SB0, _, rfl, by rw [hby, hx]⟩
    · rw [hS]; simp [bods]
    · simp only at hpn ⊢
      omega
    · intro e2
      simp only [List.append_eq_nil_iff] at e2
      exact hst e2.1
    · rw [hS]; simp
    · rw [hS]; simp
    · rw [← hql, ← hb, hx, List.length_append]; omega
end
end Go.Proofs.YtojlldalhhibmaaDoor

namespace Go.Proofs.YtojlldalhhibmaaDoor
open Go Go.RowKit
set_option linter.unusedVariables false

theorem cmpB_step {l m : List UInt8} {i : Nat} (hi : i < l.length) (hi' : i < m.length) :
    cmpB (l.drop i) (m.drop i) = if l[i].toNat < m[i].toNat then -1 else if m[i].toNat < l[i].toNat then 1 else cmpB (l.drop (i + 1)) (m.drop (i + 1)) := by
  rw [List.drop_eq_getElem_cons hi, List.drop_eq_getElem_cons hi', cmpB]
theorem cmpB_endl {l m : List UInt8} {i : Nat} (hi : l.length ≤ i) (him : i ≤ m.length) (hil : i ≤ l.length) : cmpB (l.drop i) (m.drop i) = if l.length < m.length then -1 else 0 := by
  rw [List.drop_eq_nil_of_le hi]
  by_cases h : i < m.length
  · rw [List.drop_eq_getElem_cons h, if_pos (by omega), cmpB]
  · rw [List.drop_eq_nil_of_le (by omega), if_neg (by omega), cmpB]
theorem cmpB_endm {l m : List UInt8} {i : Nat} (hi : m.length ≤ i) (him : i ≤ m.length) (h : i < l.length) : cmpB (l.drop i) (m.drop i) = 1 := by
  rw [List.drop_eq_nil_of_le hi, List.drop_eq_getElem_cons h, cmpB]
theorem ret_i64 {a b : Int} (h : a = b) : Ending.returned (.int .i64 a) = .returned (.int .i64 b) := by rw [h]

end Go.Proofs.YtojlldalhhibmaaDoor

namespace Go.Proofs.YtojlldalhhibmaaDoor
open Go Go.RowKit
set_option linter.unusedVariables false


theorem st_empty : (⟨#[]⟩ : ByteArray) = st [] := rfl

/-- One byte more ahead: the number is divided. -/
theorem beB_front (x : Nat) : ∀ (i : Nat), beB x (i + 1) = UInt8.ofNat (x / 256 ^ i) :: beB x i := by
  intro i
  unfold beB
  rw [List.range_succ_eq_map, List.map_cons, List.map_map]
  congr 1
  apply List.map_congr_left
  intro k hk
  have hk := List.mem_range.1 hk
  simp only [Function.comp]
  rw [show i + 1 - 1 - (k + 1) = i - 1 - k from by omega]

def refVal : Except Nat (Nat × Nat) → Ending
  | .ok (v, n) => .returned (.tuple #[.int .u64 (v : Int), .int .i64 (n : Int), .int .i64 0])
  | .error e => .returned (.tuple #[.int .u64 0, .int .i64 0, .int .i64 (e : Int)])

end Go.Proofs.YtojlldalhhibmaaDoor

namespace Go.Proofs.YtojlldalhhibmaaDoor
open Go Go.RowKit
set_option linter.unusedVariables false

def numV (l : List UInt8) : Nat × List UInt8 × Nat := match getVarB l with
  | .error er => (0, l, rdErr er)
  | .ok (x, n) => (x, l.drop n, 0)
theorem numV_le (l : List UInt8) : (numV l).1 < U64 ∧ (numV l).2.1.length ≤ l.length ∧ (numV l).2.2 ≤ 1000 := by
  unfold numV
  cases h : getVarB l with
  | error er => exact ⟨by show (0 : Nat) < U64; unfold U64; decide, Nat.le_refl _, (rdErr_le h).1⟩
  | ok xn => obtain ⟨x, n⟩ := xn; exact ⟨(getVarB_bound h).1, by simp, by simp⟩
end Go.Proofs.YtojlldalhhibmaaDoor

namespace Go.Proofs.YtojlldalhhibmaaDoor
open Go Go.RowKit
set_option linter.unusedVariables false

/-- A field of kind 1. -/
def fldC (s : List UInt8) : Array Value := #[.int .i64 1, .int .u64 0, .string (st s), .bool false, .int .i64 0]
def takeV (x : List UInt8 × List UInt8 × Nat) : Value := .tuple #[.agg (fldC x.1), .string (st x.2.1), .int .i64 (x.2.2 : Int)]

theorem rdText_num (l : List UInt8) : rdText l 0 = if (numV l).2.2 ≠ 0 then ([], l, (numV l).2.2) else if 65536 < (numV l).1 then ([], l, 32) else if (numV l).2.1.length < (numV l).1 then ([], l, 30)
    else ((numV l).2.1.take (numV l).1, (numV l).2.1.drop (numV l).1, 0) := by
  unfold rdText numV
  rw [if_neg (by simp)]
  cases hg : getVarB l with
  | error er => rw [if_pos (by simpa using (rdErr_le hg).2)]; rfl
  | ok xn => obtain ⟨x, n⟩ := xn; rw [if_neg (by simp)]
end Go.Proofs.YtojlldalhhibmaaDoor

namespace Go.Proofs.YtojlldalhhibmaaDoor
open Go Go.RowKit
set_option linter.unusedVariables false

/-- 'string([]byte{a, b, c, d})'. -/
theorem conv4 {P : Program} {src dst e : TypeId} (hs : P.underlying src = some (.slice e)) (he : P.underlying e = some (.int .u8)) (hd : P.underlying dst = some .string) (w : World) (n0 n1 n2 n3 : Int) (l : List UInt8) (hl : bv l = [.int .u8 n0, .int .u8 n1, .int .u8 n2, .int .u8 n3]) :
    (convert src dst (.slice (some ⟨w.heap.size, 0, none⟩) 4 4)).run P (w.alloc (.cells #[.int .u8 n0, .int .u8 n1, .int .u8 n2, .int .u8 n3] e)) = .ok (.string (st l)) (w.alloc (.cells #[.int .u8 n0, .int .u8 n1, .int .u8 n2, .int .u8 n3] e)) := by
  have h4 : l.length = 4 := by rw [← bv_length, hl]; rfl
  have hb := Bs.lit w e l (by rw [h4]; simp [maxLen]) (0, 0) rfl
  rw [hl, h4] at hb
  exact run_string_of_bs (P := P) hb hs he hd

theorem beB4 (s : Nat) (hs : s < 4294967296) : bv (beB s 4) = [.int .u8 ((s : Int) / (16777216 : Int)), .int .u8 ((s : Int) / (65536 : Int) % (256 : Int)), .int .u8 ((s : Int) / (256 : Int) % (256 : Int)), .int .u8 ((s : Int) % (256 : Int))] := by
  have e : beB s 4 = [UInt8.ofNat (s / 256 ^ 3), UInt8.ofNat (s / 256 ^ 2), UInt8.ofNat (s / 256 ^ 1), UInt8.ofNat (s / 256 ^ 0)] := rfl
  rw [e]
  simp only [bv, List.map_cons, List.map_nil, UInt8.toNat_ofNat']
  rw [show ((s / 256 ^ 3 % 2 ^ 8 : Nat) : Int) = (s : Int) / (16777216 : Int) by omega, show ((s / 256 ^ 2 % 2 ^ 8 : Nat) : Int) = (s : Int) / (65536 : Int) % (256 : Int) by omega, show ((s / 256 ^ 1 % 2 ^ 8 : Nat) : Int) = (s : Int) / (256 : Int) % (256 : Int) by omega, show ((s / 256 ^ 0 % 2 ^ 8 : Nat) : Int) = (s : Int) % (256 : Int) by omega]

def refOpenV : Except Nat (List UInt8) → Value
  | .ok b => .tuple #[.string (st b), .int .i64 0]
  | .error e => .tuple #[.string (st []), .int .i64 (e : Int)]
theorem st_emptyB : (⟨#[]⟩ : ByteArray) = st [] := rfl

end Go.Proofs.YtojlldalhhibmaaDoor

namespace Go.Proofs.YtojlldalhhibmaaDoor
open Go Go.RowKit
set_option linter.unusedVariables false

def refRPutV (q : Nat) (t : List UInt8) : Value := if 32768 < t.length then .tuple #[.string (st []), .int .i64 70] else .tuple #[.string (st (recB q t)), .int .i64 0]

theorem rdNum_numV (f : List UInt8) : rdNum f 0 = numV f := by
  unfold rdNum numV
  rw [if_neg (by simp)]
  cases getVarB f with
  | error er => rfl
  | ok xn => rfl
theorem recIn_num {f : List UInt8} {n q : Nat} {r : List UInt8} {er : Nat} (h : rdNum f 0 = (q, r, er)) :
    recIn f n = if er = 0 ∧ (rdText r 0).2.2 = 0 ∧ (rdText r 0).2.1 = [] ∧ (rdText r 0).1.length ≤ 32768 then some ((q, (rdText r 0).1), 4 + n) else none := by
  unfold recIn
  rw [h]
  simp only
  by_cases he : er = 0
  · subst he
    by_cases hc : (rdText r 0).2.2 = 0 ∧ (rdText r 0).2.1 = [] ∧ (rdText r 0).1.length ≤ 32768
    · rw [if_pos hc, if_pos ⟨rfl, hc⟩]
    · rw [if_neg hc, if_neg (fun h => hc h.2)]
  · have e : rdText r er = ([], r, er) := by unfold rdText; rw [if_pos he]
    rw [e, if_neg (fun h => he h.1), if_neg (fun h => he h.1)]

end Go.Proofs.YtojlldalhhibmaaDoor

namespace Go.Proofs.YtojlldalhhibmaaDoor
open Go Go.RowKit
set_option linter.unusedVariables false

theorem rcs_at {rs : List (Nat × List UInt8)} {j : Nat} (h : j < rs.length) : (rcs rs)[j * 2]? = some (.int .u64 (rs[j].1 : Int)) ∧ (rcs rs)[j * 2 + 1]? = some (.string (st rs[j].2)) := by
  induction rs generalizing j with
  | nil => simp at h
  | cons r rs ih =>
    rcases j with _ | j
    · simp [rcs]
    · have := ih (j := j) (by simpa using h)
      simp only [rcs, List.flatMap_cons] at this ⊢
      rw [show (j + 1) * 2 = j * 2 + 1 + 1 by omega]
      simpa using this

set_option maxHeartbeats 1000000 in
set_option maxRecDepth 100000 in
theorem rsame_any (S S' : Nat → Prop) (va vb : Value) (us vs : List (Nat × List UInt8)) (w : World) (ha : Sl S w 2 va us.length (rcs us)) (hb : Sl S' w 2 vb vs.length (rcs vs)) :
    Calls Tryd.prog 14 #[va, vb] w fun e w' => e = .returned (.bool (decide (us = vs))) ∧ ∃ n, w' = w.drewN n := by
  obtain ⟨_, A, c, rfl, hlc, hcm, hA0, hA⟩ := ha
  obtain ⟨_, B, d, rfl, hld, hdm, hB0, hB⟩ := hb
  have HA := Lib.hid hA
  have HB := Lib.hid hB
  have hm : us.length ≤ 9223372036854775807 := by unfold maxLen at hcm; omega
  clear hA hB
  by_cases hlen : us.length = vs.length
  · have HL := Lib.hid hlen
    have hlen1 : us.length ≤ vs.length := by omega
    have hlen2 : ((us.length : Int) != (vs.length : Int)) = false := by rw [hlen]; simp
    clear hlen
    go_enter Tryd.func14, Tryd.ntmps14
    go_wp2_with fail
    go_loopw [5] (fun iv wr => ∃ i : Nat, iv = .int .i64 (i : Int) ∧ i ≤ us.length ∧ Hid (us.take i = vs.take i) ∧ ∃ n, wr = w.drewN n) (fun iv _ => us.length - (intOf iv).toNat)
    case atStart => exact ⟨0, rfl, by omega, by simp [Hid], 0, rfl⟩
    case round =>
      obtain ⟨i, rfl, hi, ht, n, rfl⟩ := hrel
      by_cases hil : i < us.length
      · obtain ⟨b, o, rfl, _, hca⟩ := HA.out (by omega)
        obtain ⟨b', o', rfl, _, hcb⟩ := HB.out (by omega)
        have c0 : w.cell? ⟨b, o + i * 2, none⟩ = some (.int .u64 (us[i].1 : Int)) := hca _ _ (rcs_at hil).1
        have c1 : w.cell? ⟨b, o + i * 2 + 1, none⟩ = some (.string (st us[i].2)) := hca (i * 2 + 1) _ (rcs_at hil).2
        have d0 : w.cell? ⟨b', o' + i * 2, none⟩ = some (.int .u64 (vs[i].1 : Int)) := hcb _ _ (rcs_at (by omega)).1
        have d1 : w.cell? ⟨b', o' + i * 2 + 1, none⟩ = some (.string (st vs[i].2)) := hcb (i * 2 + 1) _ (rcs_at (by omega)).2
        clear hca hcb
        have hvl : i < vs.length := by omega
        have HS : Hid (us[i] = vs[i] → us.take (i + 1) = vs.take (i + 1)) := fun h => by rw [List.take_succ_eq_append_getElem hil, List.take_succ_eq_append_getElem hvl, h, ht.out]
        have HN : Hid (us[i] ≠ vs[i] → decide (us = vs) = false) := fun h => decide_eq_false (fun e => h (by subst e; rfl))
        generalize us[i] = x at *
        generalize vs[i] = y at *
        obtain ⟨q, t⟩ := x
        obtain ⟨q', t'⟩ := y
        simp only at c0 c1 d0 d1
        by_cases hxy : q = q' ∧ t = t'
        · obtain ⟨rfl, rfl⟩ := hxy
          have HE := Lib.hid (HS.out rfl)
          go_wp2_with fail
          go_quiet (fail)
          go_wp2_with fail
          go_roundw
          case rel => exact ⟨i + 1, by go_num, by omega, HE, _, rfl⟩
          case measure => simp [intOf]; omega
        · have HE := Lib.hid (HN.out (fun e => hxy (by injection e with a b; exact ⟨a, b⟩)))
          have hb : decide ((q : Int) = (q' : Int) ∧ t = t') = false := by rw [decide_eq_false_iff_not]; intro h; exact hxy ⟨by omega, h.2⟩
          by_cases hq : q = q'
          · subst hq
            have ht' : ¬ t = t' := fun e => hxy ⟨rfl, e⟩
            go_wp2_with fail
            go_quiet (fail)
            go_wp2_with fail
            go_ret
            exact ⟨by rw [HE.out]; rfl, _, World.drewN_drewN _ _ _⟩
          · have hq' : ¬ (q : Int) = (q' : Int) := by omega
            go_wp2_with fail
            go_quiet (fail)
            go_wp2_with fail
            go_ret
            exact ⟨by rw [HE.out]; rfl, _, World.drewN_drewN _ _ _⟩
      · obtain rfl : i = us.length := by omega
        have HE : Hid (decide (us = vs) = true) := by
          have := ht.out
          rw [List.take_length, HL.out, List.take_length] at this
          simp [Hid, this]
        go_wp2_with fail
        go_ret
        exact ⟨by rw [HE.out]; rfl, n, rfl⟩
  · have HE : Hid (decide (us = vs) = false) := decide_eq_false (fun e => hlen (by rw [e]))
    have t1 : ((us.length : Int) != (vs.length : Int)) = true := by rw [bne_iff_ne]; omega
    clear hlen
    go_enter Tryd.func14, Tryd.ntmps14
    go_wp2_with fail
    go_ret
    exact ⟨by rw [HE.out]; rfl, 0, rfl⟩

/-! ### The document's scan -/
theorem recGet_pos {l : List UInt8} {x : (Nat × List UInt8) × Nat} (h : recGet l = some x) : 8 ≤ x.2 ∧ x.2 ≤ l.length := by
  obtain ⟨r, n⟩ := x
  exact recGet_len h
end Go.Proofs.YtojlldalhhibmaaDoor
