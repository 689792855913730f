/- The statements of layer 9: SpaceLeast. -/
import Derived.Test.YtlhdeclimodfdaaDoorSpaC
namespace Go.Proofs.YtlhdeclimodfdaaDoor
open Go Go.RowKit
set_option linter.unusedVariables false

theorem infoAct : (Tryd.prog.info? 32).map (·.size) = some 2 := by kernel_rfl
theorem range2 {w : World} {b o : Nat} {u v : Value} (h0 : w.cell? ⟨b, o, none⟩ = some u) (h1 : w.cell? ⟨b, o + 1, none⟩ = some v) : w.rangeAt b o [u, v] := by
  intro j x hx
  match j with
  | 0 => simp at hx; rw [← hx]; exact h0
  | 1 => simp at hx; rw [← hx]; exact h1
  | j + 2 => simp at hx
theorem count_flip {l : List Bool} {p : Nat} (hp : p < l.length) (h0 : l.getD p false = false) : (flipAt l p).count true = l.count true + 1 := by
  unfold flipAt
  rw [h0]
  rw [List.count_set (by simpa using hp)]
  have : l[p] = false := by simpa [List.getD_eq_getElem?_getD, hp] using h0
  simp [this]
theorem count_lt {l : List Bool} {p : Nat} (hp : p < l.length) (h0 : l.getD p false = false) : l.count true < l.length := by
  have h := count_flip hp h0
  have h2 := List.count_le_length (a := true) (l := flipAt l p)
  rw [flipAt_length] at h2
  omega
theorem count_all {l : List Bool} (h : allSet l l.length) : l.count true = l.length := by
  rw [List.count_eq_length]
  intro b hb
  obtain ⟨j, hj, rfl⟩ := List.mem_iff_getElem.1 hb
  have := h j hj hj
  simpa [List.getD_eq_getElem?_getD, hj] using this.symm
theorem takeB_cases (l : List Bool) : (∃ p, takeB l = (flipAt l p, p, 0) ∧ p < l.length ∧ l.getD p false = false ∧ allSet l p ∧ l.count true < l.length) ∨ (takeB l = (l, 0, 91) ∧ l.count true = l.length) := by
  cases h : firstFree l with
  | some p =>
    obtain ⟨h1, h2, h3⟩ := firstFree_lt h
    exact .inl ⟨p, by unfold takeB; rw [h], h1, h2, h3, count_lt h1 h2⟩
  | none => exact .inr ⟨by unfold takeB; rw [h], count_all (firstFree_all h)⟩
theorem flip_has {l : List Bool} {p : Nat} (hp : p < l.length) (h0 : l.getD p false = false) : (flipAt l p).getD p false = true := by
  unfold flipAt; rw [h0]; simp [List.getD_eq_getElem?_getD, hp]
theorem flip_other {l : List Bool} {p k : Nat} (h : k ≠ p) : (flipAt l p).getD k false = l.getD k false := by
  unfold flipAt
  simp [List.getD_eq_getElem?_getD, h.symm]

set_option maxHeartbeats 4000000 in
set_option maxRecDepth 100000 in
theorem law_SpaceLeast (n : Int) (v : Value) (acts : List (Int × Int)) (w : World) (hT : TabOk w) (hn : -9223372036854775808 ≤ n ∧ n ≤ 9223372036854775807) (hv : Acts (fun b => b < w.heap.size) w v acts) :
    Calls Tryd.prog 4 #[.int .i64 n, v] w fun e w' => e = .returned (.bool true) ∧ Below w.heap.size w w' := by
  have HT := Lib.hid hT
  clear hT
  obtain ⟨A, c, rfl, hm, hbd, hA⟩ := hv
  have HA := Lib.hid hA
  have HBD := Lib.hid hbd
  clear hA hbd
  by_cases hn1 : n < 1 ∨ 256 < n
  · go_enter Tryd.func4, Tryd.ntmps4
    go_wp2_with fail
    refine (new_bad n w hn1).mono ?_
    rintro e w1 ⟨rfl, rfl⟩
    go_wp2_with fail
    refine (awake9_any w HT.out).mono ?_
    rintro e w1 ⟨rfl, q1⟩
    go_wp2_with fail
    refine (awake9_any w1 (HT.out.later q1)).mono ?_
    rintro e w2 ⟨rfl, q2⟩
    go_wp2_with fail
    go_ret
    exact ⟨rfl, below_chain q1 q2⟩
  · obtain ⟨m, rfl⟩ : ∃ m : Nat, n = (m : Int) := ⟨n.toNat, by omega⟩
    have hm1 : 1 ≤ m := by omega
    have hm2 : m ≤ 256 := by omega
    clear hn1 hn
    go_enter Tryd.func4, Tryd.ntmps4
    go_wp2_with fail
    refine (new_ok m w hm1 hm2).mono ?_
    rintro e w1 ⟨rfl, hs1, q1⟩
    go_wp2_with fail
    refine (awake9_any w1 (HT.out.later q1)).mono ?_
    rintro e w2 ⟨rfl, hbl2⟩
    have hs2 := hs1.later hbl2
    have q2 := below_chain q1 hbl2
    have R0 : Sp w2 w.heap.size (List.replicate m false) ∧ Below w.heap.size w w2 := ⟨hs2, q2⟩
    clear hs1 hbl2 q1 hs2 q2
    go_wp2_with fail
    go_loopw [7, 8, 9, 10, 11] (fun iv _ _ _ _ wr => ∃ (i : Nat) (l : List Bool), iv = .int .i64 (i : Int) ∧ i ≤ acts.length ∧ i ≤ 100 ∧ Sp wr w.heap.size l ∧ Below w.heap.size w wr) (fun iv _ _ _ _ _ => 100 - (intOf iv).toNat)
    case atStart => exact ⟨0, _, rfl, by omega, by omega, R0⟩
    case round =>
      obtain ⟨i, l, rfl, hi, hi100, hsp, hbl⟩ := hrel
      clear R0
      have hsz := hbl.size
      have HSP := Lib.hid hsp
      obtain ⟨_, hl1, hl2⟩ := hsp
      by_cases hgo : i < acts.length ∧ i < 100
      · obtain ⟨hil, hi1⟩ := hgo
        obtain ⟨b, o, rfl, hbs, hcell⟩ := HA.out (by omega)
        obtain ⟨c1, c2⟩ := hcell i hil
        have hx := HBD.out _ (List.getElem_mem hil)
        have HD1 : Hid (wr.cell? ⟨b, o + i * 2, none⟩ = some (.int .i64 acts[i].1)) := (hbl.cell (p := ⟨b, o + i * 2, none⟩) hbs).trans c1
        have HD2 : Hid (wr.cell? ⟨b, o + i * 2 + 1, none⟩ = some (.int .i64 acts[i].2)) := (hbl.cell (p := ⟨b, o + i * 2 + 1, none⟩) hbs).trans c2
        generalize acts[i].1 = k at *
        generalize acts[i].2 = p at *
        obtain ⟨hk, hp⟩ := hx
        have d1 := HD1.out
        have hcl := List.count_le_length (a := true) (l := l)
        clear hcell c1 c2
        by_cases hk0 : k = 0
        · subst hk0
          rcases takeB_cases l with ⟨q, htk, hq, hq0, hall, hcnt⟩ | ⟨htk, hcnt⟩
          · have HTK := Lib.hid htk
            have HLP : Hid (hasB (flipAt l q) (q : Int) = true) := by rw [Hid, hasB_nat]; exact flip_has hq hq0
            have HLK : Hid (∀ j : Nat, j < q → hasB (flipAt l q) (j : Int) = true) := fun j hj => by rw [hasB_nat, flip_other (by omega)]; exact hall j hj (by omega)
            have hcl2 : l.count true + 1 ≤ l.length := hcnt
            clear htk hq0 hall hcnt
            go_wp2_with fail
            refine (left_any w.heap.size l wr HSP.out).mono ?_
            rintro e w3 ⟨rfl, rfl⟩
            go_wp2_with fail
            refine (take_any w.heap.size l wr (HT.out.later hbl) HSP.out).mono ?_
            rintro e w4 ⟨rfl, hs4, hg4, _⟩
            rw [HTK.out] at hs4 ⊢
            have q4 := hbl.trans (grown_below hg4 (Nat.le_refl _) hsz)
            have HS4 := Lib.hid hs4
            clear hs4 hg4 HSP hbl
            generalize hct : l.count true = ct at *
            have HCT := Lib.hid hct
            clear hct
            go_wp2_with fail
            refine (has_any w.heap.size _ (q : Int) w4 HS4.out (by omega)).mono ?_
            rintro e w5 ⟨rfl, rfl⟩
            rw [HLP.out]
            go_wp2_with fail
            go_loop [11] (fun jv => ∃ j : Nat, jv = .int .i64 (j : Int) ∧ j ≤ q) (fun jv => q - (intOf jv).toNat)
            case atStart => exact ⟨0, rfl, by omega⟩
            case round =>
              obtain ⟨j, rfl, hj⟩ := hrel
              by_cases hjq : j < q
              · have HLJ := Lib.hid (HLK.out j hjq)
                go_wp2_with fail
                refine (has_any w.heap.size _ (j : Int) w4 HS4.out (by omega)).mono ?_
                rintro e w5 ⟨rfl, rfl⟩
                rw [HLJ.out]
                go_wp2_with fail
                go_round
                case rel => exact ⟨j + 1, by go_num, by omega⟩
                case measure => simp [intOf]; omega
              · go_wp2_with fail
                go_roundw
                case rel => exact ⟨i + 1, _, by go_num, by omega, by omega, HS4.out, q4⟩
                case measure => simp [intOf]; omega
          · have HTK := Lib.hid htk
            have hl0 : l.length - l.count true = 0 := by omega
            have HL0 := Lib.hid hl0
            clear htk hcnt hl0 hcl
            go_wp2_with fail
            refine (left_any w.heap.size l wr HSP.out).mono ?_
            rintro e w3 ⟨rfl, rfl⟩
            rw [HL0.out]
            go_wp2_with fail
            refine (take_any w.heap.size l wr (HT.out.later hbl) HSP.out).mono ?_
            rintro e w4 ⟨rfl, hs4, hg4, _⟩
            rw [HTK.out] at hs4 ⊢
            have q4 := hbl.trans (grown_below hg4 (Nat.le_refl _) hsz)
            have HS4 := Lib.hid hs4
            clear hs4 hg4 HSP hbl
            go_wp2_with fail
            go_loop [11] (fun jv => jv = .int .i64 0) (fun _ => 0)
            case atStart => rfl
            case round =>
              obtain rfl := hrel
              go_wp2_with fail
              go_roundw
              case rel => exact ⟨i + 1, _, by go_num, by omega, by omega, HS4.out, q4⟩
              case measure => simp [intOf]; omega
        · have t0 : (k != 0) = true := by rw [bne_iff_ne]; exact hk0
          have hrg := range2 HD1.out HD2.out
          go_wp2_with fail
          refine (left_any w.heap.size l wr HSP.out).mono ?_
          rintro e w3 ⟨rfl, rfl⟩
          go_wp2_with (refine wpList_load_mid rfl _ (.tmp 53) rfl b (o + i * 2) rfl [.int .i64 k, .int .i64 p] _ hrg Tryd.underlying32 rfl infoAct ?_)
          refine (do_any w.heap.size l k p wr (HT.out.later hbl) HSP.out hk hp).mono ?_
          rintro e w4 ⟨rfl, hs4, hg4⟩
          have q4 := hbl.trans (grown_below hg4 (Nat.le_refl _) hsz)
          clear hg4
          go_wp2_with fail
          go_roundw
          case rel => exact ⟨i + 1, _, by go_num, by omega, by omega, hs4, q4⟩
          case measure => simp [intOf]; omega
      · have hcase : ¬ i < acts.length ∨ (i < acts.length ∧ ¬ i < 100) := by omega
        rcases hcase with t | ⟨t, t2⟩
        all_goals
          go_wp2_with fail
          go_ret
          exact ⟨rfl, hbl⟩
end Go.Proofs.YtlhdeclimodfdaaDoor
