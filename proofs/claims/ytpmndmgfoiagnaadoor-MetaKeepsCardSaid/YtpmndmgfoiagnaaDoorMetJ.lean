/- MetaKeeps: the old or the new. -/
import Derived.Test.YtpmndmgfoiagnaaDoorMetI
import Derived.IntWalk
namespace Go.Proofs.YtpmndmgfoiagnaaDoor
open Go Go.RowKit
set_option linter.unusedVariables false

theorem Sv.again {w w1 w2 : World} {v : Value} {l : List (Int × Int)} (h : Sv (fun b => b < w.heap.size) w1 v l) (h1 : Below w.heap.size w w1) (h2 : Below w.heap.size w w2) : Sv (fun b => b < w.heap.size) w2 v l :=
  Sl.keep h fun b o hs => World.cell?_of_block ((h2.block b hs).trans (h1.block b hs).symm)

set_option maxHeartbeats 8000000 in
set_option maxRecDepth 100000 in
theorem law_MetaKeeps (v : Value) (xs : List MAct) (w : World) (hb : BitsOk w) (hv : Acts w v xs) :
    Calls Tryd.prog 3 #[v] w fun e w' => e = .returned (.bool true) ∧ Below w.heap.size w w' := by
  obtain ⟨A0, c0, rfl, hmx, hok, hA0⟩ := hv
  have HA := Lib.hid hA0
  have HB := Lib.hid hb
  have HX := Lib.hid hok
  clear hb hA0 hok
  go_enter Tryd.func3, Tryd.ntmps3
  go_wp2_with fail
  refine (dnew_any 20 w (by omega) (by omega)).mono ?_
  rintro e w1 ⟨h, rfl, hd, hnew, hbl⟩
  have D1 : Hid (Dp w w1 h (Dsk.new 20)) := ⟨hd, hnew, hbl⟩
  clear hd hnew hbl
  go_wp2_with fail
  refine (awake12_any _ (HB.out.later D1.out.below)).mono ?_
  rintro e w2 ⟨rfl, hbl⟩
  have D2 := Lib.hid (D1.out.later hbl)
  have MR0 : Hid (Mr (Dsk.new 20) 5 0 1 []) := Mr.start (by omega) (by omega) (by omega) (by omega)
  clear hbl D1
  go_wp2_with fail
  refine (mopen_mp D2.out MR0.out rfl).mono ?_
  rintro e w3 ⟨g, he, hm, -⟩
  rw [if_pos rfl] at he
  subst he
  have M3 := Lib.hid hm
  clear hm
  go_wp2_with fail
  go_loopw [5, 8, 9, 10] (fun mv lv av iv wr => ∃ (i num g : Nat) (last : Int) (body : List UInt8) (D : Dsk) (h' : Zn) (any : Bool), mv = .pointer (some ⟨g, 0, none⟩) ∧ lv = .string (st body) ∧ av = .bool any ∧ iv = .int .i64 (i : Int) ∧ i ≤ xs.length ∧ i ≤ 40 ∧ num ≤ i ∧ Hid (Mp w wr h' D g 5 num last body) ∧ Hid (h'.g = h.g) ∧ Hid (any = true ↔ num ≠ 0)) (fun _ _ _ iv _ => xs.length - (intOf iv).toNat)
  case atStart => exact ⟨0, 0, g, 1, [], _, h, false, rfl, rfl, rfl, rfl, by omega, by omega, by omega, M3, rfl, by simp [Hid]⟩
  case round =>
    clear M3 D2 MR0
    obtain ⟨i, num, g, last, body, D, h', any, rfl, rfl, rfl, rfl, hi, hi40, hni, M, G, HAN⟩ := hrel
    have hsz := M.out.dp.below.size
    by_cases hil4 : i < 40
    case neg =>
      by_cases hil : i < xs.length
      · go_wp2_with fail
        go_ret
        exact ⟨rfl, M.out.dp.below⟩
      · go_wp2_with fail
        go_ret
        exact ⟨rfl, M.out.dp.below⟩
    by_cases hil : i < xs.length
    · obtain ⟨b, o, rfl, hbl, hcell⟩ := HA.out (by omega)
      obtain ⟨k0, k1, k2, k3⟩ := hcell i hil
      have old : ∀ p : Addr, p.block < w.heap.size → wr.cell? p = w.cell? p := fun p hp => M.out.dp.below.cell hp
      have x0 := (old ⟨b, o + i * 4, none⟩ hbl).trans k0
      have x1 := (old ⟨b, o + i * 4 + 1, none⟩ hbl).trans k1
      have x2 := (old ⟨b, o + i * 4 + 2, none⟩ hbl).trans k2
      have x3 := (old ⟨b, o + i * 4 + 3, none⟩ hbl).trans k3
      have hU : Hid (num + 1 < U64) := by rw [Hid]; unfold U64; omega
      have HXI := Lib.hid (HX.out _ (List.getElem_mem hil))
      clear hcell k0 k1 k2 k3 old
      generalize xs[i] = x at *
      go_wp2_with fail
      refine (few12_any w.heap.size x wr (HXI.out.2.2.2.later M.out.dp.below) hsz).mono ?_
      rintro e w4 ⟨vl, rfl, hsv, hbl4⟩
      obtain ⟨A1, c1, rfl, -⟩ := hsv.at
      have M4 := Lib.hid (M.out.later hbl4)
      have SV := Lib.hid hsv
      have hB4 : w.heap.size ≤ w4.heap.size := M4.out.dp.below.size
      have KI := Lib.hid HXI.out.2.1
      have LI : Hid (∀ y ∈ x.left.take 20, InI y.1 ∧ InI y.2) := fun y hy => HXI.out.2.2.1 y (List.mem_of_mem_take hy)
      have LL : Hid ((x.left.take 20).length ≤ 1000000) := by rw [Hid, List.length_take]; omega
      obtain ⟨kind, steps, body0, left0, v0⟩ := x
      simp only at SV KI LI LL x0 x1 x2 x3 ⊢
      have TL : Hid ((body0.take 600).length ≤ 1099511627776) := by rw [Hid, List.length_take]; omega
      generalize body0.take 600 = t at *
      generalize left0.take 20 = l at *
      clear hsv hbl4 HXI x0 x1 x2 x3
      have M5 := Lib.hid ((M4.out.alloc (.cells #[.int .i64 kind, .int .i64 steps, .string (st t), .slice A1 l.length c1] 33)).alloc (.cells #[.string (st t)] 9))
      have BX := Lib.hid ((Blk.new w4 33 #[.int .i64 kind, .int .i64 steps, .string (st t), .slice A1 l.length c1]).alloc (.cells #[.string (st t)] 9))
      have BS := Lib.hid (Blk.new (w4.alloc (.cells #[.int .i64 kind, .int .i64 steps, .string (st t), .slice A1 l.length c1] 33)) 9 #[.string (st t)])
      go_wp2_with fail
      have hw4 : w4.heap.size + 1 < ((w4.alloc (.cells #[.int .i64 kind, .int .i64 steps, .string (st t), .slice A1 l.length c1] 33)).alloc (.cells #[.string (st t)] 9)).heap.size := by simp
      by_cases hlong : 480 < t.length
      · have MC := Lib.hid ((M5.out.mr.crash (t := []) hU.out (by simp) l 0 (by omega)).resolve_right (fun h => by have := h.1; omega)).2
        refine (msteps_long M5.out (by have := hU.out; omega) hlong HB.out KI.out).mono ?_
        rintro e w6 ⟨rfl, hel, h6, hg6, hm⟩
        have M6 := Lib.hid hm
        have G6 := Lib.hid (hg6.trans G.out)
        have BX6 := Lib.hid (hel BX.out (by decide) (by decide) (by decide))
        have SV6 := Lib.hid (Sv.again (SV.out) M4.out.dp.below M6.out.dp.below)
        clear hm hg6 hel
        have y3 : w6.cell? ⟨w4.heap.size, 3, none⟩ = some (.slice A1 l.length c1) := BX6.out.cell 3
        go_wp2_with fail
        refine (dcrash_dp M6.out.dp M6.out.mr.ok SV6.out LI.out LL.out (by rw [M6.out.mr.pend]; simp) G6.out).mono ?_
        rintro e w7 ⟨rfl, h7, hd, hg7, hs⟩
        have D7 := Lib.hid hd
        have G7 := Lib.hid hg7
        clear hd hg7 hs
        go_wp2_with fail
        refine (mopen_mp D7.out MC.out G7.out).mono ?_
        rintro e w8 ⟨g8, he, hm, -⟩
        have M8 := Lib.hid hm
        clear hm
        cases any with
        | false =>
          have h0 : num = 0 := by
            rcases Nat.eq_zero_or_pos num with h | h
            · exact h
            · have := HAN.out.2 (by omega); cases this
          subst h0
          rw [if_pos rfl] at he
          subst he
          go_wp2_with fail
          go_roundw
          case rel => exact ⟨i + 1, 0, g8, last, body, _, h7, false, rfl, rfl, rfl, by go_num, by omega, by omega, by omega, M8, G7, HAN⟩
          case measure => simp [intOf]; omega
        | true =>
          have h0 : num ≠ 0 := HAN.out.1 rfl
          rw [if_neg h0] at he
          subst he
          go_wp2_with fail
          go_roundw
          case rel => exact ⟨i + 1, num, g8, last, body, _, h7, true, rfl, rfl, rfl, by go_num, by omega, by omega, by omega, M8, G7, ⟨fun _ => h0, fun _ => rfl⟩⟩
          case measure => simp [intOf]; omega
      · have MC := Lib.hid (M5.out.mr.crash (t := t) hU.out (by omega) l (stepI steps) (stepI_le steps))
        have PE := Lib.hid (dAt_pend D (5 + (1 - last)) (recB (num + 1) t) (stepI steps))
        have OK := Lib.hid (dAt_ok M5.out.mr.ok (5 + (1 - last)) (recB (num + 1) t) (stepI steps))
        have P0 := Lib.hid M5.out.mr.pend
        refine (msteps_mp M5.out hU.out (by omega) HB.out KI.out).mono ?_
        rintro e w6 ⟨rfl, hel, h6, hg6, hm⟩
        have M6 := Lib.hid hm
        have G6 := Lib.hid (hg6.trans G.out)
        have BX6 := Lib.hid (hel BX.out (by decide) (by decide) (by decide))
        have BS6 := Lib.hid (hel BS.out (by decide) (by decide) (by decide))
        have SV6 := Lib.hid (Sv.again (SV.out) M4.out.dp.below M6.out.dp.below)
        clear hm hg6 hel
        have y3 : w6.cell? ⟨w4.heap.size, 3, none⟩ = some (.slice A1 l.length c1) := BX6.out.cell 3
        have y2 : w6.cell? ⟨w4.heap.size, 2, none⟩ = some (.string (st t)) := BX6.out.cell 2
        generalize dAt D (5 + (1 - last)) (recB (num + 1) t) (stepI steps) = D6 at *
        have PL : Hid (D6.pend.length ≤ 1000000) := by have := PE.out; rw [P0.out] at this; simp at this; rw [Hid]; omega
        generalize stepI steps = si at *
        by_cases h4 : si = 4
        · subst h4
          have MD := Lib.hid (MC.out.resolve_left (fun h => by have := h.1; omega)).2
          rw [show decide (4 = 4) = true from rfl]
          go_wp2_with fail
          refine (dcrash_dp M6.out.dp OK.out SV6.out LI.out LL.out PL.out G6.out).mono ?_
          rintro e w7 ⟨rfl, h7, hd, hg7, hs⟩
          have D7 := Lib.hid hd
          have G7 := Lib.hid hg7
          clear hd hg7 hs
          go_wp2_with fail
          refine (mopen_mp D7.out MD.out G7.out).mono ?_
          rintro e w8 ⟨g8, he, hm, -⟩
          have M8 := Lib.hid hm
          clear hm
          rw [if_neg (by omega)] at he
          subst he
          go_wp2_with fail
          go_roundw
          case rel => exact ⟨i + 1, num + 1, g8, 1 - last, t, _, h7, true, rfl, rfl, rfl, by go_num, by omega, by omega, by omega, M8, G7, by simp [Hid]⟩
          case measure => simp [intOf]; omega
        · have h4' : decide (si = 4) = false := by simpa using h4
          rw [h4']
          go_wp2_with fail
          refine (dcrash_dp M6.out.dp OK.out SV6.out LI.out LL.out PL.out G6.out).mono ?_
          rintro e w7 ⟨rfl, h7, hd, hg7, hs⟩
          have D7 := Lib.hid hd
          have G7 := Lib.hid hg7
          have BS7 := Lib.hid (hs.blk M6.out.dp.dk BS6.out (by decide) (by decide))
          clear hd hg7 hs
          go_wp2_with fail
          rcases MC.out with ⟨-, hmo⟩ | ⟨-, hmn⟩
          · have MO := Lib.hid hmo
            clear hmo
            refine (mopen_mp D7.out MO.out G7.out).mono ?_
            rintro e w8 ⟨g8, he, hm, -⟩
            have M8 := Lib.hid hm
            clear hm
            cases any with
            | false =>
              have h0 : num = 0 := by
                rcases Nat.eq_zero_or_pos num with h | h
                · exact h
                · have := HAN.out.2 (by omega); cases this
              subst h0
              rw [if_pos rfl] at he
              subst he
              go_wp2_with fail
              go_roundw
              case rel => exact ⟨i + 1, 0, g8, last, body, _, h7, false, rfl, rfl, rfl, by go_num, by omega, by omega, by omega, M8, G7, HAN⟩
              case measure => simp [intOf]; omega
            | true =>
              have h0 : num ≠ 0 := HAN.out.1 rfl
              rw [if_neg h0] at he
              subst he
              go_wp2_with fail
              go_roundw
              case rel => exact ⟨i + 1, num, g8, last, body, _, h7, true, rfl, rfl, rfl, by go_num, by omega, by omega, by omega, M8, G7, ⟨fun _ => h0, fun _ => rfl⟩⟩
              case measure => simp [intOf]; omega
          · have MN := Lib.hid hmn
            clear hmn
            refine (mopen_mp D7.out MN.out G7.out).mono ?_
            rintro e w8 ⟨g8, he, hm, hb8⟩
            have M8 := Lib.hid hm
            have BS8 := Lib.hid (BS7.out.later hb8)
            clear hm hb8
            rw [if_neg (by omega)] at he
            subst he
            have z0 : w8.cell? ⟨w4.heap.size + 1, 0, none⟩ = some (.string (st t)) := by have := BS8.out.cell 0; simpa using this
            cases any with
            | false =>
              go_wp2_with fail
              go_roundw
              case rel => exact ⟨i + 1, num + 1, g8, 1 - last, t, _, h7, true, rfl, rfl, rfl, by go_num, by omega, by omega, by omega, M8, G7, by simp [Hid]⟩
              case measure => simp [intOf]; omega
            | true =>
              by_cases htb : t = body
              · subst htb
                go_wp2_with fail
                go_roundw
                case rel => exact ⟨i + 1, num + 1, g8, 1 - last, t, _, h7, true, rfl, rfl, rfl, by go_num, by omega, by omega, by omega, M8, G7, by simp [Hid]⟩
                case measure => simp [intOf]; omega
              · have hst : ¬ st t = st body := fun h => htb (st_inj h)
                go_wp2_with fail
                go_roundw
                case rel => exact ⟨i + 1, num + 1, g8, 1 - last, t, _, h7, true, rfl, rfl, rfl, by go_num, by omega, by omega, by omega, M8, G7, by simp [Hid]⟩
                case measure => simp [intOf]; omega
    · go_wp2_with fail
      go_ret
      exact ⟨rfl, M.out.dp.below⟩
end Go.Proofs.YtpmndmgfoiagnaaDoor
