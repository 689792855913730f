/- The statements of layer 9: SpacePlays. -/
import Derived.Test.YtlhdeclimodfdaaDoorSpaI
namespace Go.Proofs.YtlhdeclimodfdaaDoor
open Go Go.RowKit
set_option linter.unusedVariables false

set_option maxHeartbeats 4000000 in
set_option maxRecDepth 100000 in
theorem law_SpacePlays (n : Int) (v : Value) (acts : List (Int × Int)) (w : World) (hT : TabOk w) (hn : -9223372036854775808 ≤ n ∧ n ≤ 9223372036854775807) (hv : Acts (fun b => b < w.heap.size) w v acts) :
    Calls Tryd.prog 5 #[.int .i64 n, v] w fun e w' => e = .returned (.bool true) ∧ Below w.heap.size w w' := by
  have HT := Lib.hid hT
  clear hT
  obtain ⟨A, c, rfl, hm, hbd, hA⟩ := hv
  have HA := Lib.hid hA
  have HBD := Lib.hid hbd
  clear hA hbd
  by_cases hn1 : n < 1 ∨ 256 < n
  · go_enter Tryd.func5, Tryd.ntmps5
    go_wp2_with fail
    refine (new_bad n w hn1).mono ?_
    rintro e w1 ⟨rfl, rfl⟩
    go_wp2_with fail
    refine (refNew_bad n w hn1).mono ?_
    rintro e w1 ⟨rfl, rfl⟩
    go_wp2_with fail
    refine (awake9_any w HT.out).mono ?_
    rintro e w1 ⟨rfl, q1⟩
    go_wp2_with fail
    go_ret
    exact ⟨rfl, q1⟩
  · obtain ⟨m, rfl⟩ : ∃ m : Nat, n = (m : Int) := ⟨n.toNat, by omega⟩
    have hm1 : 1 ≤ m := by omega
    have hm2 : m ≤ 256 := by omega
    clear hn1 hn
    go_enter Tryd.func5, Tryd.ntmps5
    go_wp2_with fail
    refine (new_ok m w hm1 hm2).mono ?_
    rintro e w1 ⟨rfl, hs1, q1⟩
    go_wp2_with fail
    refine (refNew_ok m w1 hm1 hm2).mono ?_
    rintro e w2 ⟨v2, rfl, hf2, hbl2⟩
    obtain ⟨A2, k2, c2, rfl⟩ := own_slice hf2
    have hs2 := hs1.later hbl2
    have q2 := below_chain q1 hbl2
    go_wp2_with fail
    refine (awake9_any w2 (HT.out.later q2)).mono ?_
    rintro e w3 ⟨rfl, hbl3⟩
    have R0 : Sp w3 w.heap.size (List.replicate m false) ∧ Fl w3 w.heap.size (.slice A2 k2 c2) (List.replicate m false) ∧ Below w.heap.size w w3 := ⟨hs2.later hbl3, (hf2.lower q1.size).later hbl3, below_chain q2 hbl3⟩
    clear hs1 hbl2 q1 hs2 q2 hf2 hbl3
    go_wp2_with fail
    go_loopw [7, 9, 10, 11, 12, 13, 14] (fun lv iv _ _ _ _ _ wr => ∃ (i : Nat) (l : List Bool) (A : Option Addr) (k c : Nat), lv = .slice A k c ∧ iv = .int .i64 (i : Int) ∧ i ≤ acts.length ∧ i ≤ 100 ∧ Sp wr w.heap.size l ∧ Fl wr w.heap.size (.slice A k c) l ∧ Below w.heap.size w wr) (fun _ iv _ _ _ _ _ _ => 100 - (intOf iv).toNat)
    case atStart => exact ⟨0, _, A2, k2, c2, rfl, rfl, by omega, by omega, R0⟩
    case round =>
      obtain ⟨i, l, Al, kl, cl, rfl, rfl, hi, hi100, hsp, hfl, hbl⟩ := hrel
      clear R0
      have hsz := hbl.size
      have HSP := Lib.hid hsp
      have HFL := Lib.hid hfl
      obtain ⟨_, hl1, hl2⟩ := hsp
      clear hfl
      by_cases hgo : i < acts.length ∧ i < 100
      · obtain ⟨hil, hi1⟩ := hgo
        obtain ⟨b, o, rfl, hbs, hcell⟩ := HA.out (by omega)
        obtain ⟨c1, c2'⟩ := hcell i hil
        have hx := HBD.out _ (List.getElem_mem hil)
        have HD1 : Hid (w.cell? ⟨b, o + i * 2, none⟩ = some (.int .i64 acts[i].1)) := c1
        have HD2 : Hid (w.cell? ⟨b, o + i * 2 + 1, none⟩ = some (.int .i64 acts[i].2)) := c2'
        generalize acts[i].1 = k at *
        generalize acts[i].2 = p at *
        obtain ⟨hk, hp⟩ := hx
        clear hcell c1 c2'
        have hrg := range2 ((hbl.cell (p := ⟨b, o + i * 2, none⟩) hbs).trans HD1.out) ((hbl.cell (p := ⟨b, o + i * 2 + 1, none⟩) hbs).trans HD2.out)
        go_wp2_with (refine wpList_load_mid rfl _ (.tmp 55) rfl b (o + i * 2) rfl [.int .i64 k, .int .i64 p] _ hrg Tryd.underlying32 rfl infoAct ?_)
        refine (refDo_any w.heap.size _ l k p wr HFL.out (by omega) hl2 hsz hk hp).mono ?_
        rintro e w4 ⟨v4, rfl, hf4, hbl4⟩
        obtain ⟨A4, k4, c4, rfl⟩ := own_slice hf4
        have q4 := below_chain hbl hbl4
        have HS4 := Lib.hid (HSP.out.later hbl4)
        have HF4 := Lib.hid hf4
        have hsz4 := q4.size
        clear hrg hf4 hbl4 HSP HFL hbl
        have hrg := range2 ((q4.cell (p := ⟨b, o + i * 2, none⟩) hbs).trans HD1.out) ((q4.cell (p := ⟨b, o + i * 2 + 1, none⟩) hbs).trans HD2.out)
        go_wp2_with (refine wpList_load_mid rfl _ (.tmp 66) rfl b (o + i * 2) rfl [.int .i64 k, .int .i64 p] _ hrg Tryd.underlying32 rfl infoAct ?_)
        refine (do_any w.heap.size l k p w4 (HT.out.later q4) HS4.out hk hp).mono ?_
        rintro e w5 ⟨rfl, hs5, hg5⟩
        have q5 := q4.trans (grown_below hg5 (Nat.le_refl _) hsz4)
        have hf5 : Fl w5 w.heap.size (.slice A4 k4 c4) (doB l k p).1 := Ow.beside HF4.out HS4.out.1 (by decide) hg5
        have HS5 := Lib.hid hs5
        have HF5 := Lib.hid hf5
        clear hg5 hrg hs5 hf5 HS4 HF4 q4 hsz4
        generalize (doB l k p).2.1 = a1 at *
        generalize (doB l k p).2.2 = a2 at *
        go_wp2_with fail
        refine (alike_any w.heap.size w.heap.size _ _ w5 HS5.out HF5.out).mono ?_
        rintro e w6 ⟨rfl, hbl6⟩
        have q6 := below_chain q5 hbl6
        go_wp2_with fail
        go_roundw
        case rel => exact ⟨i + 1, _, A4, k4, c4, rfl, by go_num, by omega, by omega, HS5.out.later hbl6, HF5.out.later hbl6, q6⟩
        case measure => simp [intOf]; omega
      · have hcase : ¬ i < acts.length ∨ (i < acts.length ∧ ¬ i < 100) := by omega
        rcases hcase with t | ⟨t, t2⟩
        all_goals
          go_wp2_with fail
          refine (alike_any w.heap.size w.heap.size _ _ wr HSP.out HFL.out).mono ?_
          rintro e w6 ⟨rfl, hbl6⟩
          have q6 := below_chain hbl hbl6
          go_wp2_with fail
          go_ret
          exact ⟨rfl, q6⟩
end Go.Proofs.YtlhdeclimodfdaaDoor
