/- What the proof of PagerLeast needs, part 50. -/
import Derived.Test.YtildohndbeagaaaGreatDoorPagerLeastJ30
import Derived.Test.YtildohndbeagaaaGreatDoorPagerLeastJ31
import Derived.Test.YtildohndbeagaaaGreatDoorPagerLeastJ37
import Derived.Test.YtildohndbeagaaaGreatDoorPagerLeastJ48
import Derived.Test.YtildohndbeagaaaGreatDoorPagerLeastJ49
import Derived.IntWalk

namespace Go.Proofs.YtildohndbeagaaaGreatDoor
open Go Go.RowKit
set_option linter.unusedVariables false

/-- What do leaves. -/
def VDo (w : World) (Z : Pz) (P : Pgr) (c : Int → List UInt8) : VP := fun _ W => Px w W Z P c
theorem VDo.ok {F : Nat → Prop} {ic : Nat} (w : World) (Z : Pz) (P : Pgr) (c : Int → List UInt8) : VCo F ic ic (VDo w Z P c) := ⟨fun v x x' hb h => Px.later h hb, fun h => absurd rfl h⟩

set_option maxHeartbeats 16000000 in
set_option maxRecDepth 100000 in
theorem law_PagerLeast (pl : Nat) (v : Value) (xs : List PAct) (w : World) (hb : BitsOk w ∧ TabOk w) (hpl : pl < 256) (hv : PActs w v xs) :
    Calls Tryz.prog 7 #[.int .u8 (pl : Int), v] w fun e w' => e = .returned (.bool true) ∧ Below w.heap.size w w' := by
  have HBI := Lib.hid hb.1
  have HTA := Lib.hid hb.2
  obtain ⟨A0, c0, rfl, hmx, hok, hA0⟩ := hv
  have HA := Lib.hid hA0
  have HX := Lib.hid hok
  clear hb hA0 hok
  obtain ⟨n, hn⟩ : ∃ n : Nat, n = 2 + pl % 12 := ⟨_, rfl⟩
  have e1 : (pl : Int).tmod 12 = ((pl % 12 : Nat) : Int) := by rw [Int.tmod_eq_emod_of_nonneg (by omega)]; omega
  have e2 : IntKind.i64.wrap (2 + ((pl % 12 : Nat) : Int)) = (n : Int) := by rw [i64_inp (by omega) (by omega), hn]; omega
  have e3 : IntKind.i64.wrap ((pl % 12 : Nat) : Int) = ((pl % 12 : Nat) : Int) := i64_inp (by omega) (by omega)
  have e4 : 2 + (pl : Int) % 12 = (n : Int) := by rw [hn]; omega
  have E4 := Lib.hid e4
  clear e4
  have hn2 : 2 ≤ n := by omega
  have hn101 : n ≤ 13 := by omega
  clear hn
  go_enter Tryz.func7, Tryz.ntmps7
  go_wp2_with fail
  rw [E4.out]
  clear e1 e2 e3
  refine (fresh13_any n (fun _ => []) w hn2 (by omega)).mono ?_
  rintro e w1 ⟨pd, Z, rfl, hx, hz⟩
  have X1 := Lib.hid hx
  clear hx hz
  generalize pgNew (Dsk.new 2000) 1 n 0 1 (0, fun _ => none) = P0 at *
  go_wp2_with fail
  refine (awake13_any _ (HTA.out.later X1.out.below) (HBI.out.later X1.out.below)).mono ?_
  rintro e w2 ⟨rfl, hbl⟩
  have X2 := Lib.hid (X1.out.later hbl)
  clear hbl X1
  go_wp2_with fail
  go_loopw [7] (fun iv wr => ∃ (i : Nat) (P : Pgr), iv = .int .i64 (i : Int) ∧ i ≤ xs.length ∧ i ≤ 120 ∧ Hid (Px w wr Z P (fun _ => []))) (fun iv _ => xs.length - (intOf iv).toNat)
  case atStart => exact ⟨0, P0, rfl, by omega, by omega, X2⟩
  case round =>
    clear X2
    obtain ⟨i, P, rfl, hi, hi40, X⟩ := hrel
    have hsz := X.out.below.size
    by_cases hil4 : i < 120
    case neg =>
      by_cases hil : i < xs.length
      · go_wp2_with fail
        go_ret
        exact ⟨rfl, X.out.below⟩
      · go_wp2_with fail
        go_ret
        exact ⟨rfl, X.out.below⟩
    by_cases hil : i < xs.length
    case neg =>
      go_wp2_with fail
      go_ret
      exact ⟨rfl, X.out.below⟩
    obtain ⟨b, o, rfl, hbl, hcell⟩ := HA.out (by omega)
    obtain ⟨k0, k1, k2, k3, k4, k5⟩ := hcell i hil
    have old : ∀ p : Addr, p.block < w.heap.size → wr.cell? p = w.cell? p := fun p hp => X.out.below.cell hp
    have x0 := (old ⟨b, o + i * 6, none⟩ hbl).trans k0
    have x1 := (old ⟨b, o + i * 6 + 1, none⟩ hbl).trans k1
    have x2 := (old ⟨b, o + i * 6 + 2, none⟩ hbl).trans k2
    have x3 := (old ⟨b, o + i * 6 + 3, none⟩ hbl).trans k3
    have x4 := (old ⟨b, o + i * 6 + 4, none⟩ hbl).trans k4
    have x5 := (old ⟨b, o + i * 6 + 5, none⟩ hbl).trans k5
    have HXI := Lib.hid (HX.out _ (List.getElem_mem hil))
    clear hcell k0 k1 k2 k3 k4 k5 old
    generalize xs[i] = x at *
    go_wp2_with fail
    refine (few13_any w.heap.size x wr (HXI.out.2.2.2.2.2.later X.out.below) hsz).mono ?_
    rintro e w4 ⟨vl, rfl, hsv, hbl4⟩
    obtain ⟨A1, c1, rfl, -⟩ := hsv.at
    have X4 := Lib.hid (X.out.later hbl4)
    have IDI := Lib.hid HXI.out.2.1
    clear hsv hbl4 hsz
    obtain ⟨kind, id, nst, tag, body0, left0, v0⟩ := x
    simp only at IDI x0 x1 x2 x3 x4 x5 ⊢
    have TL : Hid ((body0.take 2100).length ≤ 2100) := by rw [Hid, List.length_take]; omega
    have HML : Hid ((body0.take 2100).length ≤ maxLen) := by have := TL.out; rw [Hid]; unfold maxLen; omega
    generalize body0.take 2100 = t at *
    generalize left0.take 60 = l at *
    clear HXI x0 x1 x2 x3 x4 x5 X
    have X5 := Lib.hid (X4.out.later ((Below.refl w4.heap.size w4).alloc (Nat.le_refl _) (.cells #[.int .i64 kind, .int .i64 id, .int .i64 nst, .int .u64 (tag : Int), .string (st t), .slice A1 l.length c1] 54)))
    have BX := Lib.hid (Blk.new w4 54 #[.int .i64 kind, .int .i64 id, .int .i64 nst, .int .u64 (tag : Int), .string (st t), .slice A1 l.length c1])
    go_upto_region 8 with (fail)
    generalize hW : w4.alloc _ = W at *
    generalize w4.heap.size = gx at *
    clear hW X4
    have y0 : (W).cell? ⟨gx, 0, none⟩ = some (.int .i64 kind) := BX.out.cell 0
    have y1 : (W).cell? ⟨gx, 1, none⟩ = some (.int .i64 id) := BX.out.cell 1
    have y2 : (W).cell? ⟨gx, 2, none⟩ = some (.int .i64 nst) := BX.out.cell 2
    have y3 : (W).cell? ⟨gx, 3, none⟩ = some (.int .u64 (tag : Int)) := BX.out.cell 3
    have y4 : (W).cell? ⟨gx, 4, none⟩ = some (.string (st t)) := BX.out.cell 4
    have y5 : (W).cell? ⟨gx, 5, none⟩ = some (.slice A1 l.length c1) := BX.out.cell 5
    by_cases hk2 : kind = 2
    case neg =>
      go_upto_region 9 with (fail)
      have hnx : ¬ Z.has gx := X5.out.pg.not_has (kind_blk BX.out) (by decide)
      have HNX := Lib.hid hnx
      clear hnx y0 y1 y2 y3 y4 y5
      refine wp_region_co Z.has 3 (by kernel_rfl) (by kernel_rfl) ?_
      apply Exists.intro
      apply And.intro
      · apply wpO_is rfl rfl
        · intro wg hwg _
          unfold grows
          go_simp
          exact grows_value _ _
        intro K hK
        go_simp
        refine hK _ ?_
        clear hK K
        apply wpO_is (c := .agg (new13 2)) rfl rfl
        · intro wg hwg _
          unfold grows
          go_simp
          exact ⟨Below.refl _ _, (rnew13_any 2 wg).mono (fun e w' ⟨he, hb⟩ => ⟨_, he, hb, rfl⟩)⟩
        intro K hK
        go_simp
        refine hK _ ?_
        clear hK K
        apply wpO_load #[.int .i64 kind, .int .i64 id, .int .i64 nst, .int .u64 (tag : Int), .string (st t), .slice A1 l.length c1] rfl rfl 54 (.tmp 8) rfl gx rfl Tryz.underlying54 rfl pactTy.2 BX.out HNX.out
        intro K hK
        go_simp
        refine hK _ ?_
        clear hK K
        apply wpO_call (V := VDo w Z (P.act kind id t) (fun _ => [])) rfl rfl
        · intro wg hwg hf
          clear hf
          unfold steps
          go_simp
          apply steps_call
          exact (do13_any (X5.out.later hwg) (rc_new 2) kind id nst tag t A1 l.length c1 IDI.out (Nat.le_trans TL.out (by omega)) rfl).mono (by rintro e W' ⟨cs', ok, he, h1, h2, -, h3⟩; exact ⟨_, he, h3.turn, h2⟩)
        intro xv hxv K hK
        clear hxv
        go_simp
        refine hK _ ?_
        clear hK K
        refine wpO_end (fun wg hwg hf => ?_)
        have hpx := hf 3 _ _ rfl
        have HPX : Hid (Px w wg Z (P.act kind id t) (fun _ => [])) := hpx
        clear hf hpx hwg
        go_wp2_with fail
        go_roundw
        case rel => exact ⟨i + 1, P.act kind id t, by go_num, by omega, by omega, HPX⟩
        case measure => simp [intOf]; omega
      · apply And.intro
        · exact ⟨VCo.is _ _ _ _, VCo.is _ _ _ _, VCo.is _ _ _ _, VDo.ok _ _ _ _, trivial⟩
        · rfl
    subst hk2
    go_wp2_with fail
    refine (px_pages X5.out rfl).mono ?_
    rintro e w5 ⟨vl, rfl, how, hb5⟩
    obtain ⟨A5, c5, rfl, hA5⟩ := how.shape
    rw [il_len]
    have HA5 := Lib.hid hA5
    have X6 := Lib.hid (X5.out.later hb5)
    have BX6 := Lib.hid (BX.out.later hb5)
    have hm90 := P.pages_le
    have ew : IntKind.i64.wrap ((P.pages.length : Int) + 1) = (P.pages.length : Int) + 1 := i64_inp (by omega) (by omega)
    clear how hb5 hA5 y0 y1 y2 y3 y4 y5 X5 BX
    have y0 : (w5).cell? ⟨gx, 0, none⟩ = some (.int .i64 2) := BX6.out.cell 0
    have y1 : (w5).cell? ⟨gx, 1, none⟩ = some (.int .i64 id) := BX6.out.cell 1
    have y2 : (w5).cell? ⟨gx, 2, none⟩ = some (.int .i64 nst) := BX6.out.cell 2
    have y3 : (w5).cell? ⟨gx, 3, none⟩ = some (.int .u64 (tag : Int)) := BX6.out.cell 3
    have y4 : (w5).cell? ⟨gx, 4, none⟩ = some (.string (st t)) := BX6.out.cell 4
    have y5 : (w5).cell? ⟨gx, 5, none⟩ = some (.slice A1 l.length c1) := BX6.out.cell 5
    go_wp2_with fail
    go_loop [10] (fun kv => ∃ k : Nat, kv = .int .i64 (k : Int) ∧ k ≤ P.pages.length ∧ Hid (∀ j, j < k → P.pages[j]? = some j)) (fun kv => P.pages.length - (intOf kv).toNat)
    case atStart => exact ⟨0, rfl, by omega, fun j hj => by omega⟩
    case round =>
      obtain ⟨k, rfl, hk, HALL⟩ := hrel
      have hk90 : k ≤ 90 := by omega
      by_cases hk1 : k < P.pages.length ∧ P.pages[k]? = some k
      · obtain ⟨hk1, hkk⟩ := hk1
        obtain ⟨g5, rfl, hg5, hg5b, hcc⟩ := HA5.out (by rw [il_len]; omega)
        have z0 : w5.cell? ⟨g5, k, none⟩ = some (.int .i64 (k : Int)) := by
          rw [hcc k (by rw [il_len]; exact hk1)]
          have := (List.getElem?_eq_some_iff.1 hkk).2
          simp [il, this]
        have HN : Hid (∀ j, j < k + 1 → P.pages[j]? = some j) := fun j hj => by
          rcases Nat.lt_or_ge j k with h | h
          · exact HALL.out j h
          · obtain rfl : j = k := by omega
            exact hkk
        clear hcc hkk
        go_wp2_with fail
        go_round
        case rel => exact ⟨k + 1, by go_num, by omega, HN⟩
        case measure => simp [intOf]; omega
      · have HEND : Hid (P.pages[k]? ≠ some k) := fun h => hk1 ⟨(List.getElem?_eq_some_iff.1 h).1, h⟩
        clear hk1
        rcases Nat.lt_or_ge k P.pages.length with hkl | hkl
        case' inl =>
          obtain ⟨g5, rfl, hg5, hg5b, hcc⟩ := HA5.out (by rw [il_len]; omega)
          have z0 : w5.cell? ⟨g5, k, none⟩ = some (.int .i64 ((P.pages[k] : Nat) : Int)) := by
            rw [hcc k (by rw [il_len]; exact hkl)]
            simp [il]
          have hne : ¬ (((P.pages[k] : Nat) : Int) = (k : Int)) := fun h => HEND.out (by rw [List.getElem?_eq_getElem hkl]; congr 1; omega)
          generalize P.pages[k] = pk at z0 hne
          clear hcc hg5 hg5b
        case' inr => have hkn : ¬ k < P.pages.length := by omega
        all_goals
          go_wp2_with (refine wpList_bytes_of_st _ rfl (.tmp 74) rfl tS tB tU HML.out rfl ?_; intro A7 c7 w7 hbs7 hbl7 hsz7)
          have hX7 := X6.out.later hbl7
          refine (px_alloc hX7 _ _ t hbs7 (Nat.le_trans TL.out (by omega)) rfl).mono ?_
          rintro e w8 ⟨rfl, hx8, ht8⟩
          have BX8 := Lib.hid (hX7.blk ht8 (BX6.out.later hbl7) (by decide) (by decide) (by decide) (by decide))
          clear hX7 ht8 hbs7 hbl7 hsz7 y0 y1 y2 y3 y4 y5
          have y0 : (w8).cell? ⟨gx, 0, none⟩ = some (.int .i64 2) := BX8.out.cell 0
          have y1 : (w8).cell? ⟨gx, 1, none⟩ = some (.int .i64 id) := BX8.out.cell 1
          have y2 : (w8).cell? ⟨gx, 2, none⟩ = some (.int .i64 nst) := BX8.out.cell 2
          have y3 : (w8).cell? ⟨gx, 3, none⟩ = some (.int .u64 (tag : Int)) := BX8.out.cell 3
          have y4 : (w8).cell? ⟨gx, 4, none⟩ = some (.string (st t)) := BX8.out.cell 4
          have y5 : (w8).cell? ⟨gx, 5, none⟩ = some (.slice A1 l.length c1) := BX8.out.cell 5
          by_cases hlong : 2048 < t.length
          · rw [Pgr.alloc_long hlong] at hx8 ⊢
            have t0 : decide ((2048 : Int) < (t.length : Int)) = true := decide_eq_true (by omega)
            have t1 : decide (2048 < t.length) = true := decide_eq_true (by omega)
            have X8 := Lib.hid hx8
            clear hx8
            go_wp2_with fail
            refine (px_pages X8.out rfl).mono ?_
            rintro e w9 ⟨vl, rfl, how, hb9⟩
            obtain ⟨A9, c9, rfl, -⟩ := how.shape
            rw [il_len]
            have X9 := Lib.hid (X8.out.later hb9)
            clear how hb9
            go_wp2_with fail
            go_roundw
            case rel => exact ⟨i + 1, P, by go_num, by omega, by omega, X9⟩
            case measure => simp [intOf]; omega
          have t0 : decide ((2048 : Int) < (t.length : Int)) = false := decide_eq_false (by omega)
          have t1 : decide (2048 < t.length) = false := decide_eq_false (by omega)
          by_cases hk9 : k = 90
          · first
            | (exfalso; omega)
            | (subst hk9
               rw [Pgr.alloc_full hlong (Pgr.least_full HALL.out)] at hx8 ⊢
               have X8 := Lib.hid hx8
               clear hx8
               go_wp2_with fail
               refine (px_pages X8.out rfl).mono ?_
               rintro e w9 ⟨vl, rfl, how, hb9⟩
               obtain ⟨A9, c9, rfl, -⟩ := how.shape
               rw [il_len]
               have X9 := Lib.hid (X8.out.later hb9)
               clear how hb9
               go_wp2_with fail
               go_roundw
               case rel => exact ⟨i + 1, P, by go_num, by omega, by omega, X9⟩
               case measure => simp [intOf]; omega)
          have hk9' : ¬ ((k : Int) = 90) := by omega
          have hk91 : k < 90 := by omega
          obtain ⟨hno, hle⟩ := Pgr.least_of hk91 HALL.out HEND.out
          have HPP := Lib.hid (Pgr.pages_put hk91 hno t)
          rw [Pgr.alloc_at hlong hle] at hx8 ⊢
          have X8 := Lib.hid hx8
          clear hx8 hno hle
          go_wp2_with fail
          refine (px_read X8.out (k : Int) (by unfold InI; omega) rfl).mono ?_
          rintro e w9 ⟨A9, n9, c9, rfl, hob, hb9⟩
          rw [Pgr.has_put, if_pos rfl]
          rw [Pgr.page_put] at hob
          have HOB : Hid (Bs _ w9 (.slice A9 n9 c9) t) := hob.bs
          have X9 := Lib.hid (X8.out.later hb9)
          have BX9 := Lib.hid (BX8.out.later hb9)
          clear hob hb9 y0 y1 y2 y3 y4 y5
          have y0 : (w9).cell? ⟨gx, 0, none⟩ = some (.int .i64 2) := BX9.out.cell 0
          have y1 : (w9).cell? ⟨gx, 1, none⟩ = some (.int .i64 id) := BX9.out.cell 1
          have y2 : (w9).cell? ⟨gx, 2, none⟩ = some (.int .i64 nst) := BX9.out.cell 2
          have y3 : (w9).cell? ⟨gx, 3, none⟩ = some (.int .u64 (tag : Int)) := BX9.out.cell 3
          have y4 : (w9).cell? ⟨gx, 4, none⟩ = some (.string (st t)) := BX9.out.cell 4
          have y5 : (w9).cell? ⟨gx, 5, none⟩ = some (.slice A1 l.length c1) := BX9.out.cell 5
          go_wp2_with (refine wpList_string_of_bs _ rfl (.tmp 115) rfl tB tU tS HOB.out rfl ?_)
          refine (px_pages X9.out rfl).mono ?_
          rintro e w10 ⟨vl, rfl, how, hb10⟩
          obtain ⟨A10, c10, rfl, -⟩ := how.shape
          rw [il_len, HPP.out]
          have X10 := Lib.hid (X9.out.later hb10)
          clear how hb10
          go_wp2_with fail
          go_roundw
          case rel => exact ⟨i + 1, P.put (k : Int) t, by go_num, by omega, by omega, X10⟩
          case measure => simp [intOf]; omega
end Go.Proofs.YtildohndbeagaaaGreatDoor
