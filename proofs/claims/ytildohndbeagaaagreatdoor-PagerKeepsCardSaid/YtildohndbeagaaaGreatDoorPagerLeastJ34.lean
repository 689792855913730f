/- What the proof of PagerLeast needs, part 34. -/
import Derived.Test.YtildohndbeagaaaGreatDoorPagerLeastJ33
import Derived.BigQuiet
import Derived.Deep.QuietTactic

namespace Go.Proofs.YtildohndbeagaaaGreatDoor
open Go Go.RowKit
set_option linter.unusedVariables false

def RpPost (n : Nat) (body : List UInt8) (w : World) (e : Ending) (w' : World) : Prop :=
  ((∃ tag t v, pgParse n body = some (tag, t) ∧ e = .returned (.tuple #[.int .u64 (tag : Int), v, .bool true]) ∧ Ow 3 w' w.heap.size v (il (idsOf t)) ∧ tag < U64) ∨
    (pgParse n body = none ∧ ∃ a b, e = .returned (.tuple #[a, b, .bool false]))) ∧ Below w.heap.size w w'
set_option maxHeartbeats 4000000 in
set_option maxRecDepth 100000 in
theorem rparse_any (n : Nat) (body : List UInt8) (w : World) (h2 : 2 ≤ n) (h256 : n ≤ 256) (hl : body.length ≤ 1000000000) :
    Calls Tryz.prog 16 #[.string (st body), .int .i64 (n : Int)] w (RpPost n body w) := by
  have HBAD := Lib.hid (pgParse_bad (n := n) (body := body))
  have HGO := Lib.hid (pgParse_go (n := n) (body := body))
  have b1 := numV_le body
  have b2 := numV_le (numV body).2.1
  go_enter Tryz.func16, Tryz.ntmps16
  go_wp2_with fail
  refine (refNum_any body w (by omega)).mono ?_
  rintro e w1 ⟨rfl, hb1⟩
  obtain ⟨T1, hT1⟩ : ∃ T1, numV body = T1 := ⟨_, rfl⟩
  rw [hT1] at b1 b2 HBAD HGO ⊢
  obtain ⟨tag, l1, e1⟩ := T1
  simp only at b1 b2 HBAD HGO ⊢
  go_wp2_with fail
  refine (refNum_any l1 w1 (by omega)).mono ?_
  rintro e w2 ⟨rfl, hb2⟩
  have HB2 := Lib.hid (hb1.trans (hb2.mono hb1.size))
  clear hb1 hb2 hT1
  obtain ⟨T2, hT2⟩ : ∃ T2, numV l1 = T2 := ⟨_, rfl⟩
  rw [hT2] at b2 HBAD HGO ⊢
  clear hT2
  obtain ⟨cn, l2, e2⟩ := T2
  simp only at b2 HBAD HGO ⊢
  by_cases h1 : e1 ≠ 0
  · have t0 : ¬ (e1 : Int) = 0 := by omega
    have HX := Lib.hid (HBAD.out (.inl h1))
    go_wp2_with fail
    go_ret3
    exact ⟨.inr ⟨HX.out, _, _, rfl⟩, HB2.out⟩
  obtain rfl : e1 = 0 := by omega
  clear h1
  by_cases h1 : e2 ≠ 0
  · have t0 : ¬ (e2 : Int) = 0 := by omega
    have HX := Lib.hid (HBAD.out (.inr (.inl h1)))
    go_wp2_with fail
    go_ret3
    exact ⟨.inr ⟨HX.out, _, _, rfl⟩, HB2.out⟩
  obtain rfl : e2 = 0 := by omega
  clear h1
  by_cases h90 : 90 < cn
  · have t0 : (90 : Int) < (cn : Int) := by omega
    have HX := Lib.hid (HBAD.out (.inr (.inr h90)))
    go_wp2_with fail
    go_ret3
    exact ⟨.inr ⟨HX.out, _, _, rfl⟩, HB2.out⟩
  have t0 : ¬ (90 : Int) < (cn : Int) := by omega
  have HG2 := Lib.hid (HGO.out rfl rfl (by omega))
  have HTAG := Lib.hid b1.1
  clear HBAD HGO
  go_upto_region 7 with (fail)
  have HZ : Tryz.zeroCells91 = tkB (List.replicate n false) := by rw [tkB_start]; kernel_rfl
  have HI0 : Hid (Ow 3 ((w2.alloc (.cells #[] 3)).alloc (.cells Tryz.zeroCells91 91)) w.heap.size (.slice (some ⟨w2.heap.size, 0, none⟩) 0 0) (il (idsOf (fun _ => none : TF)))) := by
    have : idsOf (fun _ => none : TF) = [] := List.length_eq_zero_iff.1 ids_none
    rw [this]
    exact (Ow.made 3 w2 w.heap.size HB2.out.size rfl).later ((Below.refl _ _).alloc (Nat.le_refl _) _)
  have HT0 : Hid (Blk ((w2.alloc (.cells #[] 3)).alloc (.cells Tryz.zeroCells91 91)) (w2.heap.size + 1) 91 (tkB (List.replicate n false))) := by
    have := Blk.new (w2.alloc (.cells #[] 3)) 91 Tryz.zeroCells91
    rw [HZ] at this ⊢
    unfold Hid
    simpa using this
  have HW0 : Hid (Below w.heap.size w ((w2.alloc (.cells #[] 3)).alloc (.cells Tryz.zeroCells91 91))) := (HB2.out.alloc HB2.out.size _).alloc (by have := HB2.out.size; simp; omega) _
  have HGT : Hid (w.heap.size ≤ w2.heap.size + 1) := by have := HB2.out.size; rw [Hid]; omega
  clear HZ HB2
  generalize (w2.alloc (.cells #[] 3)).alloc (.cells Tryz.zeroCells91 91) = w3 at *
  generalize w2.heap.size + 1 = gt at *
  generalize w2.heap.size = g0 at *
  obtain ⟨s0, hs0⟩ : ∃ s0 : PcSt, s0 = ⟨l2, 0, -1, List.replicate n false, fun _ => none⟩ := ⟨_, rfl⟩
  have HM0 : Hid (RpM n cn 0 s0 s0) := by rw [hs0]; exact RpM.start n cn l2
  have hr0 : l2 = s0.rest := by rw [hs0]
  have HG3 : Hid (pgParse n body = match pcLoop n cn s0 with | some s => if rdEnd s.rest s.err = 0 then some (tag, s.t) else none | none => none) := by rw [hs0]; exact HG2.out
  have HI1 : Hid (Ow 3 w3 w.heap.size (.slice (some ⟨g0, 0, none⟩) 0 0) (il (idsOf s0.t))) := by rw [hs0]; exact HI0.out
  have HT1 : Hid (Blk w3 gt 91 (tkB s0.used)) := by rw [hs0]; exact HT0.out
  have hlr : s0.rest.length ≤ 1000000000 := by rw [← hr0]; omega
  have hc90 : cn ≤ 90 := by omega
  rw [hr0]
  clear hs0 hr0 HG2 HI0 HT0 b1 b2 t0 h90
  go_wp2_with fail
  go_loopw [15, 11, 13] (fun jv mv iv wr => ∃ (j : Nat) (s : PcSt) (A : Option Addr) (k c : Nat), jv = .int .u64 (j : Int) ∧ mv = .string (st s.rest) ∧ iv = .slice A k c ∧ j ≤ cn ∧ s.rest.length ≤ 1000000000 ∧ Hid (RpM n cn j s0 s) ∧ Hid (Ow 3 wr w.heap.size (.slice A k c) (il (idsOf s.t))) ∧ Hid (Blk wr gt 91 (tkB s.used)) ∧ Hid (Below w.heap.size w wr)) (fun jv _ _ _ => cn - (intOf jv).toNat)
  case atStart => exact ⟨0, s0, _, _, _, rfl, rfl, rfl, Nat.zero_le _, hlr, HM0, HI1, HT1, HW0⟩
  case round =>
    clear HM0 HI1 HT1 HW0
    obtain ⟨j, s, A, k, c, rfl, rfl, rfl, hj, hlr, HM, HI, HT, HB⟩ := hrel
    by_cases hjc : j < cn
    · go_upto_region 11 with (fail)
      have HV0 : Hid (Blk (wr.alloc (.cells #[.int .u64 0, .int .u64 0, .int .u64 0] 92)) wr.heap.size 92 (rpC s.rest 0)) := Blk.new _ _ _
      have HI2 := Lib.hid (Ow.later HI.out ((Below.refl wr.heap.size wr).alloc (Nat.le_refl _) (.cells #[.int .u64 0, .int .u64 0, .int .u64 0] 92)))
      have HT2 := Lib.hid (HT.out.later ((Below.refl wr.heap.size wr).alloc (Nat.le_refl _) (.cells #[.int .u64 0, .int .u64 0, .int .u64 0] 92)))
      have HB2 := Lib.hid (HB.out.alloc HB.out.size (.cells #[.int .u64 0, .int .u64 0, .int .u64 0] 92))
      have HGV : Hid (w.heap.size ≤ wr.heap.size) := HB.out.size
      clear HI HT HB
      generalize wr.alloc _ = wv at *
      generalize wr.heap.size = gv at *
      go_wp2_with fail
      go_loopw [17, 11] (fun kv mv wi => ∃ q : Nat, kv = .int .i64 (q : Int) ∧ mv = .string (st (rpR s.rest q)) ∧ q ≤ 3 ∧ Hid (∀ i, i < q → rpE s.rest i = 0) ∧ Hid (Blk wi gv 92 (rpC s.rest q)) ∧ Hid (Ow 3 wi w.heap.size (.slice A k c) (il (idsOf s.t))) ∧ Hid (Blk wi gt 91 (tkB s.used)) ∧ Hid (Below w.heap.size w wi)) (fun kv _ _ => 3 - (intOf kv).toNat)
      case atStart => exact ⟨0, rfl, rfl, by omega, fun i hi => absurd hi (Nat.not_lt_zero i), HV0, HI2, HT2, HB2⟩
      case round =>
        clear HV0 HI2 HT2 HB2
        obtain ⟨q, rfl, rfl, hq, HE, HV, HI, HT, HB⟩ := hrel
        by_cases hq3 : q < 3
        · have hql := rpR_le s.rest q
          go_wp2_with fail
          refine (refNum_any (rpR s.rest q) _ (by omega)).mono ?_
          rintro e w5 ⟨rfl, hb5⟩
          have HN : Hid (rpE s.rest q ≠ 0 → pcOne n s = none) := fun h => pcOne_noE HM.out.err hq3 h
          have HS : Hid (rpE s.rest q = 0 → ∀ i, i < q + 1 → rpE s.rest i = 0) := fun h i hi => by
            by_cases hiq : i < q
            · exact HE.out i hiq
            · obtain rfl : i = q := by omega
              exact h
          have HP := Lib.hid (rpC_put s.rest hq3)
          have HR1 : Hid (rpR s.rest (q + 1) = (numV (rpR s.rest q)).2.1) := rfl
          have ev : rpE s.rest q = (numV (rpR s.rest q)).2.2 := rfl
          have xv : rpX s.rest q = (numV (rpR s.rest q)).1 := rfl
          rw [ev] at HN HS
          rw [xv] at HP
          obtain ⟨T3, hT3⟩ : ∃ T3, numV (rpR s.rest q) = T3 := ⟨_, rfl⟩
          rw [hT3] at HN HS HP HR1 ⊢
          clear hT3 ev xv
          obtain ⟨x3, l3, e3⟩ := T3
          simp only at HN HS HP HR1 ⊢
          have HV5 := Lib.hid (HV.out.later hb5)
          have HI5 := Lib.hid (Ow.later HI.out hb5)
          have HT5 := Lib.hid (HT.out.later hb5)
          have HB5 := Lib.hid (HB.out.trans (hb5.mono HB.out.size))
          clear HE HV HI HT HB hb5 hql
          by_cases h3 : e3 ≠ 0
          · have t0 : ¬ (e3 : Int) = 0 := by omega
            have HX := Lib.hid (HM.out.stop hjc (HN.out h3))
            go_wp2_with fail
            go_ret3
            refine ⟨.inr ⟨?_, _, _, rfl⟩, HB5.out⟩
            rw [HG3.out, HX.out]
          · obtain rfl : e3 = 0 := by omega
            clear h3 HN
            have HS2 := Lib.hid (HS.out rfl)
            have hqi : (0 : Int) ≤ (q : Int) := by omega
            have hqj : (q : Int) < 3 := by omega
            have dq : w5.cell? ⟨gv, q, none⟩ = some ((rpC s.rest q)[q]'(by show q < 3; omega)) := by rw [HV5.out.cell q]; exact Array.getElem?_eq_getElem (by show q < 3; omega)
            have fq := HV5.out.free q
            go_wp2_with fail
            go_roundw
            case rel => exact ⟨q + 1, by go_num, by rw [HR1.out], by omega, HS2, by rw [← HP.out]; exact HV5.out.put q _, Ow.beside HI5.out HV5.out (by decide) (grown_cell _), HT5.out.far (p := ⟨gv, q, none⟩) (HT5.out.ne HV5.out (by decide)) _, HB5.out.setCell HGV.out _⟩
            case measure => simp [intOf]; omega
        · obtain rfl : q = 3 := by omega
          have E0 := HE.out 0 (by omega)
          have E1 := HE.out 1 (by omega)
          have E2 := HE.out 2 (by omega)
          have d0 : wr.cell? ⟨gv, 0, none⟩ = some (.int .u64 (rpX s.rest 0 : Int)) := HV.out.cell 0
          have d1 : wr.cell? ⟨gv, 1, none⟩ = some (.int .u64 (rpX s.rest 1 : Int)) := HV.out.cell 1
          have d2 : wr.cell? ⟨gv, 2, none⟩ = some (.int .u64 (rpX s.rest 2 : Int)) := HV.out.cell 2
          have N0 : Hid (89 < rpX s.rest 0 → pcLoop n cn s0 = none) := fun h => HM.out.stop hjc (pcOne_no0x HM.out.err E0 h)
          have N1 : Hid (rpX s.rest 0 ≤ 89 → n ≤ rpX s.rest 1 → pcLoop n cn s0 = none) := fun h h' => HM.out.stop hjc (pcOne_no1x HM.out.err E0 h E1 h')
          have N2 : Hid (rpX s.rest 0 ≤ 89 → rpX s.rest 1 < n → 2048 < rpX s.rest 2 → pcLoop n cn s0 = none) := fun h h' h'' => HM.out.stop hjc (pcOne_no2x HM.out.err E0 h E1 h' E2 h'')
          have N3 : Hid (rpX s.rest 0 ≤ 89 → rpX s.rest 1 < n → rpX s.rest 2 ≤ 2048 → (rpX s.rest 0 : Int) ≤ s.last ∨ s.used.getD (rpX s.rest 1) false = true → pcLoop n cn s0 = none) := fun h h' h'' h3 => HM.out.stop hjc (by
            rw [pcOne_yes HM.out.err E0 h E1 h' E2 h'', if_pos]
            rcases h3 with h3 | h3
            · exact .inl h3
            · exact .inr (claimB_taken h3))
          have N4 : Hid (rpX s.rest 0 ≤ 89 → rpX s.rest 1 < n → rpX s.rest 2 ≤ 2048 → s.last < (rpX s.rest 0 : Int) → s.used.getD (rpX s.rest 1) false = false → ∃ s', RpM n cn (j + 1) s0 s' ∧ s'.rest = rpR s.rest 3 ∧ idsOf s'.t = idsOf s.t ++ [rpX s.rest 0] ∧ tkB s'.used = (tkB s.used).setIfInBounds (rpX s.rest 1) (.bool true)) := fun h h' h'' h3 h4 => by
            obtain ⟨a1, a2, a3⟩ := HM.out.next hjc E0 h E1 h' E2 h'' h3 h4 rfl
            exact ⟨_, a1, rfl, a2, a3⟩
          have HU : Hid (∀ p, p < 256 → wr.cell? ⟨gt, p, none⟩ = some (.bool (s.used.getD p false))) := fun p hp => by rw [HT.out.cell p, tkB_get _ hp]
          have HLA : Hid (s.last = ((idsOf s.t).getLast?.map fun i : Nat => (i : Int)).getD (-1)) := (HM.out.last _).2 rfl
          have HRL : Hid ((rpR s.rest 3).length ≤ 1000000000) := by have := rpR_le s.rest 3; rw [Hid]; omega
          have hx0 := (numV_le (rpR s.rest 0)).1
          have hx1 := (numV_le (rpR s.rest 1)).1
          have hx2 := (numV_le (rpR s.rest 2)).1
          have hx0 : rpX s.rest 0 < U64 := hx0
          have hx1 : rpX s.rest 1 < U64 := hx1
          have hx2 : rpX s.rest 2 < U64 := hx2
          have hwn : IntKind.u64.wrap (n : Int) = (n : Int) := wrap_u64 (by omega) (by unfold U64; omega)
          have HVK := HV
          have HV0 : Hid ((rpC s.rest 3)[0]? = some (.int .u64 (rpX s.rest 0 : Int))) := rfl
          generalize rpC s.rest 3 = cv at HVK HV0
          clear E0 E1 E2 HE HV
          generalize rpX s.rest 0 = x0 at *
          generalize rpX s.rest 1 = x1 at *
          generalize rpX s.rest 2 = x2 at *
          generalize rpR s.rest 3 = l9 at *
          by_cases hc0 : 89 < x0
          · have HX := Lib.hid (N0.out hc0)
            have t0 : (89 : Int) < (x0 : Int) := by omega
            clear N0 N1 N2 N3 N4 HU HLA
            go_wp2_with fail
            go_quiet (fail)
            go_wp2_with fail
            go_ret3
            refine ⟨.inr ⟨?_, _, _, rfl⟩, (below_drewN HB.out _)⟩
            rw [HG3.out, HX.out]
          have t0 : decide ((89 : Int) < (x0 : Int)) = false := decide_eq_false (by omega)
          by_cases hc1 : n ≤ x1
          · have HX := Lib.hid (N1.out (by omega) hc1)
            have t1 : (n : Int) ≤ (x1 : Int) := by omega
            clear N0 N1 N2 N3 N4 HU HLA
            go_wp2_with fail
            go_quiet (fail)
            go_wp2_with fail
            go_ret3
            refine ⟨.inr ⟨?_, _, _, rfl⟩, (below_drewN HB.out _)⟩
            rw [HG3.out, HX.out]
          have t1 : decide ((n : Int) ≤ (x1 : Int)) = false := decide_eq_false (by omega)
          by_cases hc2 : 2048 < x2
          · have HX := Lib.hid (N2.out (by omega) (by omega) hc2)
            have t2 : (2048 : Int) < (x2 : Int) := by omega
            clear N0 N1 N2 N3 N4 HU HLA
            go_wp2_with fail
            go_quiet (fail)
            go_wp2_with fail
            go_ret3
            refine ⟨.inr ⟨?_, _, _, rfl⟩, (below_drewN HB.out _)⟩
            rw [HG3.out, HX.out]
          have t2 : decide ((2048 : Int) < (x2 : Int)) = false := decide_eq_false (by omega)
          have hwx : IntKind.i64.wrap (x0 : Int) = (x0 : Int) := i64_inp (by omega) (by omega)
          have N5 := Lib.hid (fun h => N3.out (by omega) (by omega) (by omega) h)
          have N6 := Lib.hid (fun h h' => N4.out (by omega) (by omega) (by omega) h h')
          have u1 := HU.out x1 (by omega)
          have hb0 : (0 : Int) ≤ (x1 : Int) := by omega
          have hb1 : (x1 : Int) < 256 := by omega
          have fu := HT.out.free x1
          have hkl : k = (idsOf s.t).length := by have := own_len HI.out; rw [il_len] at this; exact this
          have HKL := Lib.hid hkl
          have HIL : Hid ((idsOf s.t).length ≤ 90) := ids_le s.t
          have HI9 : Hid (∀ m, Ow 3 ((wr.drewN m).setCell ⟨gt, x1, none⟩ (.bool true)) w.heap.size (.slice A k c) (il (idsOf s.t))) := fun m => Ow.beside (w := wr.drewN m) (HI.out) (HT.out.drewN m) (by decide) (grown_cell _)
          have HT9 : Hid (∀ m, Blk ((wr.drewN m).setCell ⟨gt, x1, none⟩ (.bool true)) gt 91 ((tkB s.used).setIfInBounds x1 (.bool true))) := fun m => (HT.out.drewN m).put x1 _
          have HD9 : ∀ m, ((wr.drewN m).setCell ⟨gt, x1, none⟩ (.bool true)).cell? ⟨gv, 0, none⟩ = some (.int .u64 (x0 : Int)) := fun m => (HVK.out.drewN m |>.far (p := ⟨gt, x1, none⟩) (HVK.out.ne HT.out (by decide)) _).cell 0 |>.trans (HV0.out)
          have HB9 : Hid (∀ m, Below w.heap.size w ((wr.drewN m).setCell ⟨gt, x1, none⟩ (.bool true))) := fun m => (below_drewN HB.out m).setCell HGT.out _
          clear N0 N1 N2 N3 N4 HU 
          cases hlq : (idsOf s.t).getLast? with
          | none =>
            have hnil : idsOf s.t = [] := List.getLast?_eq_none_iff.1 hlq
            have hk0 : k = 0 := by rw [hkl, hnil]; rfl
            have t4 : decide ((0 : Int) < (k : Int)) = false := decide_eq_false (by omega)
            have t5 : decide (0 < k) = false := decide_eq_false (by omega)
            have hl1 : s.last = -1 := by rw [HLA.out, hlq]; rfl
            clear hkl hnil HLA hlq hk0
            cases hu : s.used.getD x1 false with
            | true =>
              have HX := Lib.hid (N5.out (.inr hu))
              rw [hu] at u1
              clear N5 N6 hu
              go_wp2_with fail
              go_quiet (fail)
              go_wp2_with fail
              go_ret3
              refine ⟨.inr ⟨?_, _, _, rfl⟩, (below_drewN HB.out _)⟩
              rw [HG3.out, HX.out]
            | false =>
              have HX := Lib.hid (N6.out (by omega) hu)
              rw [hu] at u1
              clear N5 N6 hu
              go_wp2_with fail
              go_quiet (fail)
              go_wp2_with (at_builtin; go_loud (refine wpList_append_sl _ rfl (.tmp 107) (.tmp 111) elemIntP rfl (Ow.later (HI9.out _) ((Below.refl _ _).alloc (Nat.le_refl _) _)) (Sl.new1 (S := fun _ => True) _ _ _ (by simp) trivial) rfl rfl (by intro y hy; obtain rfl := List.mem_singleton.1 hy; rfl) (by have := HIL.out; simp [il_len, maxLen]; omega) (by have := HIL.out; simp [il_len]; omega) (by have := HB.out.size; simp; omega) ?_); intro A1 k1 c1 w9 hown1 hg1 hat1)
              obtain ⟨s', hM', hr', hi', hk'⟩ := HX.out
              have HO1 : Ow 3 w9 w.heap.size (.slice A1 k1 c1) (il (idsOf s'.t)) := by
                rw [hi']
                unfold Ow
                rw [il_len, List.length_append]
                have e1 : il (idsOf s.t ++ [x0]) = il (idsOf s.t) ++ [.int .i64 (x0 : Int)] := by simp [il]
                rw [e1]
                simpa [il_len] using hown1
              have HT1 : Blk w9 gt 91 (tkB s'.used) := by
                rw [hk']
                exact ((HT9.out _).alloc _).grown hg1 (own_ne HI.out HT.out (by decide))
              have HB1 : Below w.heap.size w w9 := below_grown_own ((HB9.out _).alloc (HB9.out _).size _) (Ow.later (HI9.out _) ((Below.refl _ _).alloc (Nat.le_refl _) _)) hg1 (by have := HB.out.size; simp; omega)
              clear hown1 hg1 hat1
              refine ⟨?_, ?measure⟩
              · (repeat apply Exists.intro)
                refine ⟨?_, rfl⟩
                exact ⟨j + 1, s', A1, k1, c1, by go_num, by rw [hr'], rfl, by omega, by rw [hr']; exact HRL.out, hM', HO1, HT1, HB1⟩
              case measure => simp [intOf]; omega
          | some y =>
            have hl1 : s.last = (y : Int) := by rw [HLA.out, hlq]; rfl
            have hpos : 0 < (idsOf s.t).length := by
              rcases Nat.eq_zero_or_pos (idsOf s.t).length with h | h
              · rw [List.length_eq_zero_iff.1 h] at hlq; cases hlq
              · exact h
            obtain ⟨g8, c8, hv8, hB8, hlt8, hc8, hf8⟩ := HI.out.open (by rw [il_len]; exact hpos)
            injection hv8 with hA8 hk8 hcc8
            subst hA8 
            obtain ⟨m, hkm⟩ : ∃ m, k = m + 1 := ⟨k - 1, by omega⟩
            have dm : wr.cell? ⟨g8, m, none⟩ = some (.int .i64 (y : Int)) := by
              rw [hc8 m (by rw [il_len]; omega), il_at]
              have : (idsOf s.t).getD m 0 = y := by
                rw [List.getLast?_eq_getElem?, ← hkl, hkm, Nat.add_sub_cancel] at hlq
                rw [List.getD_eq_getElem?_getD, hlq]; rfl
              rw [this]
            have hm90 : m ≤ 90 := by have := HIL.out; omega
            have hwm : IntKind.i64.wrap ((k : Int) - 1) = (m : Int) := by rw [hkm, show (((m + 1 : Nat) : Int) - 1) = (m : Int) by omega]; exact i64_inp (by omega) (by omega)
            have t4 : decide ((0 : Int) < (k : Int)) = true := decide_eq_true (by omega)
            have t5 : decide (0 < k) = true := decide_eq_true (by omega)
            have hmk2 : m < k := by omega
            have hmk : (m : Int) < (k : Int) := by omega
            have hmi : (0 : Int) ≤ (m : Int) := by omega
            clear hkl HLA hlq hpos hB8 hlt8 hc8 hf8 hk8 hcc8 hkm
            by_cases hxy : (x0 : Int) ≤ (y : Int)
            · have HX := Lib.hid (N5.out (.inl (by omega)))
              have t3 : decide ((x0 : Int) ≤ (y : Int)) = true := decide_eq_true hxy
              have t6 : decide (x0 ≤ y) = true := decide_eq_true (by omega)
              clear N5 N6
              go_wp2_with fail
              go_quiet (fail)
              go_wp2_with fail
              go_ret3
              refine ⟨.inr ⟨?_, _, _, rfl⟩, (below_drewN HB.out _)⟩
              rw [HG3.out, HX.out]
            have t3 : decide ((x0 : Int) ≤ (y : Int)) = false := decide_eq_false hxy
            have t6 : decide (x0 ≤ y) = false := decide_eq_false (by omega)
            have HXY : Hid (s.last < (x0 : Int)) := by rw [Hid]; omega
            clear hxy hl1
            cases hu : s.used.getD x1 false with
            | true =>
              have HX := Lib.hid (N5.out (.inr hu))
              rw [hu] at u1
              clear N5 N6 hu
              go_wp2_with fail
              go_quiet (fail)
              go_wp2_with fail
              go_ret3
              refine ⟨.inr ⟨?_, _, _, rfl⟩, (below_drewN HB.out _)⟩
              rw [HG3.out, HX.out]
            | false =>
              have HX := Lib.hid (N6.out HXY.out hu)
              rw [hu] at u1
              clear N5 N6 hu
              go_wp2_with fail
              go_quiet (fail)
              go_wp2_with (at_builtin; go_loud (refine wpList_append_sl _ rfl (.tmp 107) (.tmp 111) elemIntP rfl (Ow.later (HI9.out _) ((Below.refl _ _).alloc (Nat.le_refl _) _)) (Sl.new1 (S := fun _ => True) _ _ _ (by simp) trivial) rfl rfl (by intro y hy; obtain rfl := List.mem_singleton.1 hy; rfl) (by have := HIL.out; simp [il_len, maxLen]; omega) (by have := HIL.out; simp [il_len]; omega) (by have := HB.out.size; simp; omega) ?_); intro A1 k1 c1 w9 hown1 hg1 hat1)
              obtain ⟨s', hM', hr', hi', hk'⟩ := HX.out
              have HO1 : Ow 3 w9 w.heap.size (.slice A1 k1 c1) (il (idsOf s'.t)) := by
                rw [hi']
                unfold Ow
                rw [il_len, List.length_append]
                have e1 : il (idsOf s.t ++ [x0]) = il (idsOf s.t) ++ [.int .i64 (x0 : Int)] := by simp [il]
                rw [e1]
                simpa [il_len] using hown1
              have HT1 : Blk w9 gt 91 (tkB s'.used) := by
                rw [hk']
                exact ((HT9.out _).alloc _).grown hg1 (own_ne HI.out HT.out (by decide))
              have HB1 : Below w.heap.size w w9 := below_grown_own ((HB9.out _).alloc (HB9.out _).size _) (Ow.later (HI9.out _) ((Below.refl _ _).alloc (Nat.le_refl _) _)) hg1 (by have := HB.out.size; simp; omega)
              clear hown1 hg1 hat1
              refine ⟨?_, ?measure⟩
              · (repeat apply Exists.intro)
                refine ⟨?_, rfl⟩
                exact ⟨j + 1, s', A1, k1, c1, by go_num, by rw [hr'], rfl, by omega, by rw [hr']; exact HRL.out, hM', HO1, HT1, HB1⟩
              case measure => simp [intOf]; omega
    · obtain rfl : j = cn := by omega
      have HF : Hid (pcLoop n j s0 = some s) := by have := HM.out.all; rw [Nat.sub_self] at this; exact this
      by_cases he : s.rest = []
      · have HX : Hid (pgParse n body = some (tag, s.t)) := by rw [Hid, HG3.out, HF.out]; simp only; rw [he, HM.out.err, rdEnd_nil, if_pos rfl]
        rw [he]
        clear he
        go_wp2_with fail
        go_ret3
        exact ⟨.inl ⟨tag, s.t, _, HX.out, rfl, HI.out, HTAG.out⟩, HB.out⟩
      · have HX : Hid (pgParse n body = none) := by
          rw [Hid, HG3.out, HF.out]
          simp only
          rw [HM.out.err, if_neg]
          unfold rdEnd
          have : 0 < s.rest.length := List.length_pos_iff.2 he
          rw [if_pos ⟨rfl, this⟩]
          decide
        have tq : s.rest.isEmpty = false := by simp [he]
        go_wp2_with fail
        go_ret3
        exact ⟨.inr ⟨HX.out, _, _, rfl⟩, HB.out⟩
end Go.Proofs.YtildohndbeagaaaGreatDoor
