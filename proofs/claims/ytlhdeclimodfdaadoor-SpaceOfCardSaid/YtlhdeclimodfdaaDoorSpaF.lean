/- The statements of layer 9: SpaceBack: a space made of its bytes. -/
import Derived.Test.YtlhdeclimodfdaaDoorSpaE
import Derived.Test.YtlhdeclimodfdaaDoorSpaD
import Derived.Test.YtlhdeclimodfdaaDoorGrowB
namespace Go.Proofs.YtlhdeclimodfdaaDoor
open Go Go.RowKit
set_option linter.unusedVariables false

/-! ### The bytes, run by run -/
def encR : Nat → Bool → List Bool → List UInt8
  | r, _, [] => varB r
  | r, t, b :: l => if b = t then encR (r + 1) t l else varB r ++ encR 1 b l
theorem encR_runs : ∀ (l : List Bool) (x : List UInt8) (r : Nat) (t : Bool), (l.foldl putS (x, r, t)).1 ++ varB (l.foldl putS (x, r, t)).2.1 = x ++ encR r t l
  | [], x, r, t => rfl
  | b :: l, x, r, t => by
    rw [List.foldl_cons]
    by_cases h : b = t
    · have e : putS (x, r, t) b = (x, r + 1, t) := by unfold putS; rw [if_pos h]
      rw [e, encR_runs l, encR, if_pos h]
    · have e : putS (x, r, t) b = (x ++ varB r, 1, b) := by unfold putS; rw [if_neg h]
      rw [e, encR_runs l, encR, if_neg h, List.append_assoc]
theorem spB_enc (l : List Bool) : spB l = varB l.length ++ encR 0 false l := encR_runs l _ _ _
theorem rdCount_varB {r : Nat} {m : Int} (s : List UInt8) (hr : r < U64) (hm : (r : Int) ≤ m) : rdCount (varB r ++ s) 0 m = (r, s, 0) := by
  unfold rdCount
  rw [if_neg (by simp), getVarB_varB hr s]
  simp only
  rw [if_neg (by omega), List.drop_left]
theorem ofR_enc (n : Nat) (hn : 1 ≤ n) (hn2 : n ≤ 256) : ∀ (l : List Bool) (r : Nat) (t : Bool) (acc : List Bool) (k : Nat), acc.length + r + l.length = n → (0 < r ∨ (acc.length = 0 ∧ t = false)) → l.length + 2 ≤ k →
    ofR n k acc t (encR r t l, 0) = some (acc ++ List.replicate r t ++ l, ([], 0))
  | [], r, t, acc, k, hl, h0, hk => by
    obtain ⟨k, rfl⟩ : ∃ k', k = k' + 2 := ⟨k - 2, by simp at hk; omega⟩
    simp only [List.length_nil, Nat.add_zero] at hl
    have hr : 0 < r := by rcases h0 with h | ⟨h, _⟩ <;> omega
    have hc : rdCount (encR r t []) 0 ((n - acc.length : Nat) : Int) = (r, [], 0) := by
      rw [encR, show varB r = varB r ++ [] by simp]
      exact rdCount_varB [] (by unfold U64; omega) (by omega)
    rw [ofR_next (by omega) (by simp only [hc]; omega)]
    simp only [hc]
    rw [ofR_end (by simp; omega)]
    simp
  | b :: l, r, t, acc, k, hl, h0, hk => by
    rw [List.length_cons] at hl hk
    by_cases h : b = t
    · subst h
      have ih := ofR_enc n hn hn2 l (r + 1) b acc k (by omega) (.inl (by omega)) (by omega)
      rw [encR, if_pos rfl, ih, List.replicate_succ']
      simp
    · obtain ⟨k, rfl⟩ : ∃ k', k = k' + 1 := ⟨k - 1, by omega⟩
      have hb : b = !t := by cases b <;> cases t <;> simp at h ⊢
      have hc : rdCount (encR r t (b :: l)) 0 ((n - acc.length : Nat) : Int) = (r, encR 1 b l, 0) := by
        rw [encR, if_neg h]
        exact rdCount_varB _ (by unfold U64; omega) (by omega)
      rw [ofR_next (by omega) (by
        simp only [hc]
        rintro ⟨h1, h2⟩
        rcases h0 with h3 | ⟨h3, h4⟩
        · omega
        · rcases h2 with h2 | h2
          · omega
          · rw [h4] at h2; cases h2)]
      simp only [hc]
      rw [← hb]
      have ih := ofR_enc n hn hn2 l 1 b (acc ++ List.replicate r t) k (by simp; omega) (.inl (by omega)) (by omega)
      rw [ih]
      simp
theorem ofB_spB {l : List Bool} (h1 : 1 ≤ l.length) (h2 : l.length ≤ 256) : ofB (spB l) = some l := by
  have hc : rdCount (spB l) 0 256 = (l.length, encR 0 false l, 0) := by
    rw [spB_enc]
    exact rdCount_varB _ (by unfold U64; omega) (by omega)
  unfold ofB
  rw [hc]
  simp only
  rw [if_neg (by omega), ofR_enc l.length h1 h2 l 0 false [] _ (by simp) (.inr ⟨rfl, rfl⟩) (by omega)]
  simp [rdEnd]
theorem spB_le {l : List Bool} (h2 : l.length ≤ 256) : (spB l).length ≤ 10000 := by
  have h0 := varB_le 8 l.length (Nat.lt_of_le_of_lt h2 (by decide))
  have h3 := putS_len l (varB l.length, 0, false) (by simp only; exact Nat.lt_of_le_of_lt (by omega : 0 + l.length ≤ 256) (by decide))
  have h4 := putS_run l (varB l.length, 0, false)
  have h5 := varB_le 8 (runS l).2.1 (Nat.lt_of_le_of_lt h4 (Nat.lt_of_le_of_lt (by simp only; omega : _ ≤ 256) (by decide)))
  unfold spB
  rw [List.length_append]
  unfold runS at h5 ⊢
  simp only at h3
  omega

set_option maxHeartbeats 4000000 in
set_option maxRecDepth 100000 in
theorem law_SpaceBack (n : Int) (v : Value) (acts : List (Int × Int)) (v2 : Value) (more : List (Int × Int)) (w : World) (hT : TabOk w) (hn : -9223372036854775808 ≤ n ∧ n ≤ 9223372036854775807) (hv : Acts (fun b => b < w.heap.size) w v acts) (hv2 : Acts (fun b => b < w.heap.size) w v2 more) :
    Calls Tryd.prog 6 #[.int .i64 n, v, v2] w fun e w' => e = .returned (.bool true) ∧ Below w.heap.size w w' := by
  have HT := Lib.hid hT
  clear hT
  obtain ⟨A, c, rfl, hm, hbd, hA⟩ := hv
  obtain ⟨A2, c2, rfl, hmm2, hbd2, hA2⟩ := hv2
  have HA := Lib.hid hA
  have HBD := Lib.hid hbd
  have HA2 := Lib.hid hA2
  have HBD2 := Lib.hid hbd2
  clear hA hbd hA2 hbd2
  by_cases hn1 : n < 1 ∨ 256 < n
  · go_enter Tryd.func6, Tryd.ntmps6
    go_wp2_with fail
    refine (new_bad n w hn1).mono ?_
    rintro e w1 ⟨rfl, rfl⟩
    go_wp2_with fail
    refine (awake9_any w HT.out).mono ?_
    rintro e w1 ⟨rfl, q1⟩
    go_wp2_with fail
    refine (awake9_any w1 (HT.out.later q1)).mono ?_
    rintro e w2 ⟨rfl, q2⟩
    go_wp2_with fail
    go_ret
    exact ⟨rfl, below_chain q1 q2⟩
  · obtain ⟨m, rfl⟩ : ∃ m : Nat, n = (m : Int) := ⟨n.toNat, by omega⟩
    have hm1 : 1 ≤ m := by omega
    have hm2 : m ≤ 256 := by omega
    clear hn1 hn
    go_enter Tryd.func6, Tryd.ntmps6
    go_wp2_with fail
    refine (new_ok m w hm1 hm2).mono ?_
    rintro e w1 ⟨rfl, hs1, q1⟩
    go_wp2_with fail
    refine (awake9_any w1 (HT.out.later q1)).mono ?_
    rintro e w2 ⟨rfl, hbl2⟩
    have hs2 := hs1.later hbl2
    have q2 := below_chain q1 hbl2
    have R0 : Sp w2 w.heap.size (List.replicate m false) ∧ Below w.heap.size w w2 := ⟨hs2, q2⟩
    clear hs1 hbl2 q1 hs2 q2
    go_wp2_with fail
    go_loopw [9] (fun iv wr => ∃ (i : Nat) (l : List Bool), iv = .int .i64 (i : Int) ∧ i ≤ acts.length ∧ i ≤ 60 ∧ Sp wr w.heap.size l ∧ Below w.heap.size w wr) (fun iv _ => 60 - (intOf iv).toNat)
    case atStart => exact ⟨0, _, rfl, by omega, by omega, R0⟩
    case round =>
      obtain ⟨i, l, rfl, hi, hi100, hsp, hbl⟩ := hrel
      clear R0
      have hsz := hbl.size
      have HSP := Lib.hid hsp
      clear hsp
      by_cases hgo : i < acts.length ∧ i < 60
      · obtain ⟨hil, hi1⟩ := hgo
        obtain ⟨b, o, rfl, hbs, hcell⟩ := HA.out (by omega)
        obtain ⟨c1, c2'⟩ := hcell i hil
        have hx := HBD.out _ (List.getElem_mem hil)
        have HD1 : Hid (wr.cell? ⟨b, o + i * 2, none⟩ = some (.int .i64 acts[i].1)) := (hbl.cell (p := ⟨b, o + i * 2, none⟩) hbs).trans c1
        have HD2 : Hid (wr.cell? ⟨b, o + i * 2 + 1, none⟩ = some (.int .i64 acts[i].2)) := (hbl.cell (p := ⟨b, o + i * 2 + 1, none⟩) hbs).trans c2'
        generalize acts[i].1 = k at *
        generalize acts[i].2 = p at *
        obtain ⟨hk, hp⟩ := hx
        clear hcell c1 c2'
        have hrg := range2 HD1.out HD2.out
        go_wp2_with (refine wpList_load_mid rfl _ (.tmp 50) rfl b (o + i * 2) rfl [.int .i64 k, .int .i64 p] _ hrg Tryd.underlying32 rfl infoAct ?_)
        refine (do_any w.heap.size l k p wr (HT.out.later hbl) HSP.out hk hp).mono ?_
        rintro e w4 ⟨rfl, hs4, hg4⟩
        have q4 := hbl.trans (grown_below hg4 (Nat.le_refl _) hsz)
        clear hg4
        go_wp2_with fail
        go_roundw
        case rel => exact ⟨i + 1, _, by go_num, by omega, by omega, hs4, q4⟩
        case measure => simp [intOf]; omega
      · have hl1 := HSP.out.2.1
        have hl2 := HSP.out.2.2
        have HB := Lib.hid (ofB_spB hl1 hl2)
        have hle := spB_le hl2
        have hcase : ¬ i < acts.length ∨ (i < acts.length ∧ ¬ i < 60) := by omega
        rcases hcase with t | ⟨t, t2⟩
        all_goals
          go_wp2_with fail
          refine (spbytes_any w.heap.size l wr HSP.out).mono ?_
          rintro e w3 ⟨A3, k3, c3, rfl, hown3, hbl3⟩
          have q3 := below_chain hbl hbl3
          have hs3 := HSP.out.later hbl3
          have hgm := hs3.1.lt
          go_wp2_with fail
          refine (spOf_any _ _ _ w3 (by omega) hown3.bs).mono ?_
          rintro e w4 ⟨hpost, hbl4⟩
          rw [HB.out] at hpost
          rcases hpost with ⟨m0, gt, hm0, rfl, hgt, hst4⟩ | ⟨hm0, _⟩
          · injection hm0 with hm0
            subst hm0
            have R1 : Sp w4 w.heap.size l ∧ Sp w4 gt l ∧ Below w.heap.size w w4 := ⟨hs3.later hbl4, hst4, below_chain q3 hbl4⟩
            have hne : w.heap.size < gt := by omega
            clear hown3 hbl3 q3 hs3 hbl4 hst4 HSP HB hgt hgm hbl hsz
            go_wp2_with fail
            go_loopw [12, 13, 14, 15, 16] (fun iv _ _ _ _ wr => ∃ (i : Nat) (l : List Bool), iv = .int .i64 (i : Int) ∧ i ≤ more.length ∧ i ≤ 60 ∧ Sp wr w.heap.size l ∧ Sp wr gt l ∧ Below w.heap.size w wr) (fun iv _ _ _ _ _ => 60 - (intOf iv).toNat)
            case atStart => exact ⟨0, _, rfl, by omega, by omega, R1⟩
            case round =>
              obtain ⟨i2, l2, rfl, hi2, hi60, hsp, hst, hbl⟩ := hrel
              clear R1
              have hsz := hbl.size
              have HSP := Lib.hid hsp
              have HST := Lib.hid hst
              clear hsp hst
              by_cases hgo : i2 < more.length ∧ i2 < 60
              · obtain ⟨hil, hi1⟩ := hgo
                obtain ⟨b, o, rfl, hbs, hcell⟩ := HA2.out (by omega)
                obtain ⟨c1, c2'⟩ := hcell i2 hil
                have hx := HBD2.out _ (List.getElem_mem hil)
                have HD1 : Hid (w.cell? ⟨b, o + i2 * 2, none⟩ = some (.int .i64 more[i2].1)) := c1
                have HD2 : Hid (w.cell? ⟨b, o + i2 * 2 + 1, none⟩ = some (.int .i64 more[i2].2)) := c2'
                generalize more[i2].1 = k at *
                generalize more[i2].2 = p at *
                obtain ⟨hk, hp⟩ := hx
                clear hcell c1 c2'
                have hrg := range2 ((hbl.cell (p := ⟨b, o + i2 * 2, none⟩) hbs).trans HD1.out) ((hbl.cell (p := ⟨b, o + i2 * 2 + 1, none⟩) hbs).trans HD2.out)
                go_wp2_with (refine wpList_load_mid rfl _ (.tmp 79) rfl b (o + i2 * 2) rfl [.int .i64 k, .int .i64 p] _ hrg Tryd.underlying32 rfl infoAct ?_)
                refine (do_any w.heap.size l2 k p wr (HT.out.later hbl) HSP.out hk hp).mono ?_
                rintro e w5 ⟨rfl, hs5, hg5⟩
                have q5 := hbl.trans (grown_below hg5 (Nat.le_refl _) hsz)
                have HT5 := Lib.hid (HST.out.grown hg5 (by intro e; injection e with e; omega))
                have HS5 := Lib.hid hs5
                have hsz5 := q5.size
                clear hg5 HSP HST hrg hs5
                have hrg := range2 ((q5.cell (p := ⟨b, o + i2 * 2, none⟩) hbs).trans HD1.out) ((q5.cell (p := ⟨b, o + i2 * 2 + 1, none⟩) hbs).trans HD2.out)
                go_wp2_with (refine wpList_load_mid rfl _ (.tmp 88) rfl b (o + i2 * 2) rfl [.int .i64 k, .int .i64 p] _ hrg Tryd.underlying32 rfl infoAct ?_)
                refine (do_any gt l2 k p w5 (HT.out.later q5) HT5.out hk hp).mono ?_
                rintro e w6 ⟨rfl, ht6, hg6⟩
                have q6 := q5.trans (grown_below hg6 (by omega) hsz5)
                have hs6 := HS5.out.grown hg6 (by intro e; injection e with e; omega)
                clear hg6 HS5 HT5 hrg
                generalize (doB l2 k p).2.1 = a1 at *
                generalize (doB l2 k p).2.2 = a2 at *
                go_wp2_with fail
                go_roundw
                case rel => exact ⟨i2 + 1, _, by go_num, by omega, by omega, hs6, ht6, q6⟩
                case measure => simp [intOf]; omega
              · have hcase : ¬ i2 < more.length ∨ (i2 < more.length ∧ ¬ i2 < 60) := by omega
                rcases hcase with t | ⟨t, t2⟩
                all_goals
                  go_wp2_with fail
                  refine wp_region_grow_lit (by kernel_rfl) (by kernel_rfl) ?_
                  apply Exists.intro
                  apply And.intro
                  · apply wpGrow_is rfl
                    · intro wg hwg _
                      unfold grows
                      go_simp
                      exact grows_value _ _
                    intro K hK
                    go_simp
                    refine hK _ ?_
                    clear hK K
                    apply wpGrow_rel (V := VBs (spB l2)) rfl
                    · intro wg hwg _
                      unfold grows
                      go_simp
                      exact ⟨Below.refl _ _, (spbytes_any w.heap.size l2 wg (HSP.out.later hwg)).mono fun e w' ⟨A, k, c, he, ho, hbb⟩ => ⟨_, he, hbb, ho.bs.any⟩⟩
                    intro xv7 hxv K hK
                    obtain ⟨wx, _, hbx⟩ := hxv
                    obtain ⟨A7, c7, rfl, _⟩ := Bs.at hbx
                    go_simp
                    refine hK _ ?_
                    clear hK K hbx
                    apply wpGrow_is rfl
                    · intro wg hwg hf
                      have hb6 := hf ⟨1, .data⟩ (by simp) rfl _ _ rfl
                      have hcv6 := run_string_of_bs (P := Tryd.prog) hb6 tB tU tS
                      clear hf hb6
                      unfold grows
                      go_simp
                      exact grows_value _ _
                    intro K hK
                    go_simp
                    refine hK _ ?_
                    clear hK K
                    apply wpGrow_is rfl
                    · intro wg hwg _
                      unfold grows
                      go_simp
                      exact grows_value _ _
                    intro K hK
                    go_simp
                    refine hK _ ?_
                    clear hK K
                    apply wpGrow_rel (V := VBs (spB l2)) rfl
                    · intro wg hwg _
                      unfold grows
                      go_simp
                      exact ⟨Below.refl _ _, (spbytes_any gt l2 wg (HST.out.later hwg)).mono fun e w' ⟨A, k, c, he, ho, hbb⟩ => ⟨_, he, hbb, ho.bs.any⟩⟩
                    intro xv8 hxv K hK
                    obtain ⟨wx, _, hbx⟩ := hxv
                    obtain ⟨A8, c8, rfl, _⟩ := Bs.at hbx
                    go_simp
                    refine hK _ ?_
                    clear hK K hbx
                    apply wpGrow_is rfl
                    · intro wg hwg hf
                      have hb6 := hf ⟨4, .data⟩ (by simp) rfl _ _ rfl
                      have hcv6 := run_string_of_bs (P := Tryd.prog) hb6 tB tU tS
                      clear hf hb6
                      unfold grows
                      go_simp
                      exact grows_value _ _
                    intro K hK
                    go_simp
                    refine hK _ ?_
                    clear hK K
                    repeat (first
                        | (apply wpGrow_skip rfl
                           intro K hK
                           go_simp
                           refine hK _ ?_
                           clear hK K)
                        | (apply wpGrow_is rfl
                           · intro wg hwg _
                             unfold grows
                             go_simp
                             exact grows_value _ _
                           intro K hK
                           go_simp
                           refine hK _ ?_
                           clear hK K))
                    apply wpGrow_is rfl
                    · intro wg hwg _
                      unfold grows
                      go_simp
                      apply grows_same
                      go_at_call 11
                      exact left_any w.heap.size _ _ (HSP.out.later hwg)
                    intro K hK
                    go_simp
                    refine hK _ ?_
                    clear hK K
                    repeat (first
                        | (apply wpGrow_skip rfl
                           intro K hK
                           go_simp
                           refine hK _ ?_
                           clear hK K)
                        | (apply wpGrow_is rfl
                           · intro wg hwg _
                             unfold grows
                             go_simp
                             exact grows_value _ _
                           intro K hK
                           go_simp
                           refine hK _ ?_
                           clear hK K))
                    apply wpGrow_is rfl
                    · intro wg hwg _
                      unfold grows
                      go_simp
                      apply grows_same
                      go_at_call 11
                      exact left_any gt _ _ (HST.out.later hwg)
                    intro K hK
                    go_simp
                    refine hK _ ?_
                    clear hK K
                    repeat (first
                        | (apply wpGrow_skip rfl
                           intro K hK
                           go_simp
                           refine hK _ ?_
                           clear hK K)
                        | (apply wpGrow_is rfl
                           · intro wg hwg _
                             unfold grows
                             go_simp
                             exact grows_value _ _
                           intro K hK
                           go_simp
                           refine hK _ ?_
                           clear hK K))
                    refine wpGrow_end (fun wg hwg _ => ?_)
                    go_wp2
                    go_ret
                    exact ⟨rfl, hbl.trans (hwg.mono hbl.size)⟩
                  · apply And.intro
                    · repeat (first | exact trivial | (refine ⟨Stays.is _, ?_⟩) | (refine ⟨Stays.bs _, ?_⟩))
                    · rfl
          · cases hm0
end Go.Proofs.YtlhdeclimodfdaaDoor
