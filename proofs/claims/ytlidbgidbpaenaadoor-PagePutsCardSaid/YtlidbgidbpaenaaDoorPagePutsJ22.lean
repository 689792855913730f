/- What the proof of PagePuts needs, part 22. -/
import Derived.Test.YtlidbgidbpaenaaDoorPagePutsJ6
import Derived.Test.YtlidbgidbpaenaaDoorPagePutsJ20
import Derived.Test.YtlidbgidbpaenaaDoorPagePutsJ21

namespace Go.Proofs.YtlidbgidbpaenaaDoor
open Go Go.RowKit
set_option linter.unusedVariables false

theorem PgIs.lower {B B' : Nat} {w : World} {v : Value} {leaf : Bool} {next : Int} {cs : List Cel} (h : PgIs B w v leaf next cs) (hB : B' ≤ B) : PgIs B' w v leaf next cs := by
  obtain ⟨A, c, rfl, hc⟩ := h
  exact ⟨A, c, rfl, Sl.more hc fun b hb => ⟨Nat.le_trans hB hb.1, hb.2⟩⟩
theorem PgIs.later {B : Nat} {w w' : World} {v : Value} {leaf : Bool} {next : Int} {cs : List Cel} (h : PgIs B w v leaf next cs) (hb : Below w.heap.size w w') : PgIs B w' v leaf next cs := by
  obtain ⟨A, c, rfl, hc⟩ := h
  exact ⟨A, c, rfl, Sl.more (Sl.below hc hb fun _ h => h.2) fun b h => ⟨h.1, Nat.lt_of_lt_of_le h.2 hb.size⟩⟩
/-- A page, in a region where memory only grows. -/
def VPg (leaf : Bool) (next : Int) (cs : List Cel) : VP := fun v w => PgIs 0 w v leaf next cs
theorem Stays.pg (leaf : Bool) (next : Int) (cs : List Cel) : Stays (VPg leaf next cs) := fun _ _ _ hb h => PgIs.later h hb

set_option maxHeartbeats 4000000 in
set_option maxRecDepth 100000 in
theorem awake10_any (w : World) (hb : BitsOk w) : Calls Tryd.prog 11 #[] w fun e w' => e = .returned (.bool true) ∧ Below w.heap.size w w' := by
  have HB := Lib.hid hb
  have hmid : Mid exC := mid_of_few exFew
  have HM := Lib.hid hmid
  clear hb hmid
  go_enter Tryd.func11, Tryd.ntmps11
  go_wp2_with fail
  refine (example_any w).mono ?_
  rintro e w1 ⟨v1, rfl, ⟨A1, c1, rfl, hc1⟩, hbl1⟩
  have HB1 := Lib.hid (HB.out.later hbl1)
  have HC1 := Lib.hid hc1
  clear hc1
  go_wp2_with fail
  refine (pgbytes_any _ true 7 _ exC w1 HB1.out (by decide) HM.out HC1.out).mono ?_
  rintro e w2 ⟨hok, _, hbl2⟩
  obtain ⟨A2, k2, c2, rfl, hown2⟩ := hok exChk
  rw [exF] at hown2
  have q2 := hbl1.trans (hbl2.mono hbl1.size)
  have HO2 := Lib.hid hown2
  clear hok hown2 hbl1 hbl2
  go_wp2_with fail
  refine (pgof_any _ _ (sealB [1, 7, 2, 1, 97, 1, 49, 1, 99, 1, 50]) w2 (by rw [sealB_len]; simp) HO2.out.bs).mono ?_
  rintro e w3 ⟨hsome, _, hbl3⟩
  obtain ⟨v3, rfl, ⟨A3, c3, rfl, hc3⟩⟩ := hsome true 7 exC (by have := pgOfB_bytes (b := true) (n := 7) exChk; rw [show ((7 : Nat) : Int) = 7 from rfl, exF] at this; exact this)
  have q3 := q2.trans (hbl3.mono q2.size)
  have HO3 := Lib.hid (HO2.out.later hbl3)
  have HC3 : Hid (PgIs 0 w3 _ true 7 exC) := ⟨A3, c3, rfl, Sl.more hc3 fun b h => ⟨Nat.zero_le _, h.2⟩⟩
  have hp4 := Blk.new w3 24 #[.bool true, .int .i64 7, .slice A3 exC.length c3]
  have hbl4 : Below w3.heap.size w3 (w3.alloc (.cells #[.bool true, .int .i64 7, .slice A3 exC.length c3] 24)) := (Below.refl _ _).alloc (Nat.le_refl _) _
  clear hsome hbl3 hc3
  go_wp2_with fail
  refine (example_any _).mono ?_
  rintro e w5 ⟨v5, rfl, ⟨A5, c5, rfl, hc5⟩, hbl5⟩
  have r5 : Below w3.heap.size w3 w5 := hbl4.trans (hbl5.mono hbl4.size)
  have hp5 := hp4.later hbl5
  have HC5 := Lib.hid hc5
  have HL2 : exC.length ≤ 1000000 := by decide
  clear hbl5 hc5 hbl4
  go_wp2_with fail
  have hfd := pfind_any (fun b => _ ≤ b ∧ b < w5.heap.size) true 7 _ exC [98] w5 HL2 HC5.out exRises
  rw [exFind.1, exFind.2] at hfd
  refine hfd.mono ?_
  rintro e w6 ⟨rfl, hbl6⟩
  have r6 := r5.trans (hbl6.mono r5.size)
  have hp6 := hp5.later hbl6
  clear hbl6 hfd hp5 hp4
  go_wp2_with fail
  refine (example_any _).mono ?_
  rintro e w7 ⟨v7, rfl, ⟨A7, c7, rfl, hc7⟩, hbl7⟩
  have r7 := r6.trans (hbl7.mono r6.size)
  have hp7 := hp6.later hbl7
  have HC7 := Lib.hid hc7
  clear hbl7 hc7 hp6
  go_wp2_with fail
  refine (psplit_any _ true 7 _ exC w7 HM.out HC7.out (by decide)).mono ?_
  rintro e w8 ⟨k8, va, vb, rfl, hh, ⟨Aa, ca, rfl, hca⟩, ⟨Ab, cb, rfl, hcb⟩, hbl8⟩
  obtain rfl := exHalf hh
  have r8 := r7.trans (hbl8.mono r7.size)
  have hp8 := hp7.later hbl8
  have HCA : Hid (PgIs 0 w8 (.agg #[.bool true, .int .i64 7, .slice Aa 1 ca]) true 7 (exC.take 1)) := ⟨Aa, ca, rfl, Sl.more hca fun b h => ⟨Nat.zero_le _, h.2⟩⟩
  have HCB : Hid (PgIs 0 w8 (.agg #[.bool true, .int .i64 7, .slice Ab 1 cb]) true 7 (exC.drop 1)) := ⟨Ab, cb, rfl, Sl.more hcb fun b h => ⟨Nat.zero_le _, h.2⟩⟩
  have HCA2 : Hid (Cs (fun b => b < w8.heap.size) w8 (.slice Aa 1 ca) (exC.take 1)) := Sl.more hca fun b h => h.2
  have HCB2 : Hid (Cs (fun b => b < w8.heap.size) w8 (.slice Ab 1 cb) (exC.drop 1)) := Sl.more hcb fun b h => h.2
  have ea : (exC.take 1).length = 1 := rfl
  have eb : (exC.drop 1).length = 1 := rfl
  have ee : exC.length = 2 := rfl
  have HS3 : Hid (PgIs 0 w8 (.agg #[.bool true, .int .i64 7, .slice A3 2 c3]) true 7 exC) := HC3.out.later r8
  have hcv0 : Hid (∀ wg, Below w8.heap.size w8 wg → (convert 27 9 (.slice A2 k2 c2)).run Tryd.prog wg = .ok (.string (st (sealB [1, 7, 2, 1, 97, 1, 49, 1, 99, 1, 50]))) wg) := fun wg hwg => run_string_of_bs (P := Tryd.prog) ((HO3.out.later r8).later hwg).bs tB tU tS
  have hse : Hid (∀ wg, Calls Tryd.prog 17 #[.string (st [1, 7, 2, 1, 97, 1, 49, 1, 99, 1, 50])] wg fun e w' => e = .returned (.string (st (sealB [1, 7, 2, 1, 97, 1, 49, 1, 99, 1, 50]))) ∧ Below wg.heap.size wg w') := fun wg => refSeal_any [1, 7, 2, 1, 97, 1, 49, 1, 99, 1, 50] wg (by simp)
  generalize sealB [1, 7, 2, 1, 97, 1, 49, 1, 99, 1, 50] = sb at *
  have qw8 := q3.trans (r8.mono q3.size)
  rw [ea, eb]
  clear hca hcb hbl8 hp7
  go_wp2_with fail
  rw [ee] at hp8
  have hb1 := (hp8.alloc (.cells #[.bool true, .int .i64 7, .slice Aa 1 ca] 24)).alloc (.cells #[.bool true, .int .i64 7, .slice Ab 1 cb] 24)
  have hb2 : Blk ((w8.alloc (.cells #[.bool true, .int .i64 7, .slice Aa 1 ca] 24)).alloc (.cells #[.bool true, .int .i64 7, .slice Ab 1 cb] 24)) w8.heap.size 24 #[.bool true, .int .i64 7, .slice Aa 1 ca] := (Blk.new _ _ _).alloc _
  have hb3 : Blk ((w8.alloc (.cells #[.bool true, .int .i64 7, .slice Aa 1 ca] 24)).alloc (.cells #[.bool true, .int .i64 7, .slice Ab 1 cb] 24)) (w8.heap.size + 1) 24 #[.bool true, .int .i64 7, .slice Ab 1 cb] := Blk.new1 _ _ _ _
  have qW : Below w8.heap.size w8 ((w8.alloc (.cells #[.bool true, .int .i64 7, .slice Aa 1 ca] 24)).alloc (.cells #[.bool true, .int .i64 7, .slice Ab 1 cb] 24)) := ((Below.refl _ _).alloc (Nat.le_refl _) _).alloc (by simp) _
  generalize hW : (w8.alloc (.cells #[.bool true, .int .i64 7, .slice Aa 1 ca] 24)).alloc (.cells #[.bool true, .int .i64 7, .slice Ab 1 cb] 24) = W at *
  clear hW
  have d0 : W.cell? ⟨w3.heap.size, 0, none⟩ = some (.bool true) := hb1.cell 0
  have d1 : W.cell? ⟨w3.heap.size, 1, none⟩ = some (.int .i64 7) := hb1.cell 1
  have d2 : W.cell? ⟨w3.heap.size, 2, none⟩ = some (.slice A3 2 c3) := hb1.cell 2
  have d3 : W.cell? ⟨w8.heap.size, 0, none⟩ = some (.bool true) := hb2.cell 0
  have d4 : W.cell? ⟨w8.heap.size, 1, none⟩ = some (.int .i64 7) := hb2.cell 1
  have d5 : W.cell? ⟨w8.heap.size, 2, none⟩ = some (.slice Aa 1 ca) := hb2.cell 2
  have d6 : W.cell? ⟨w8.heap.size + 1, 0, none⟩ = some (.bool true) := hb3.cell 0
  have d7 : W.cell? ⟨w8.heap.size + 1, 1, none⟩ = some (.int .i64 7) := hb3.cell 1
  have d8 : W.cell? ⟨w8.heap.size + 1, 2, none⟩ = some (.slice Ab 1 cb) := hb3.cell 2
  clear ea eb ee hp8 hb1 hb2 hb3 hh
  refine wp_region_grow_lit (by kernel_rfl) (by kernel_rfl) ?_
  apply Exists.intro
  apply And.intro
  · repeat (first
      | (apply wpGrow_skip rfl
         intro K hK
         go_simp
         refine hK _ ?_
         clear hK K)
      | (apply wpGrow_is rfl
         · intro wg hwg _
           have hcv := hcv0.out wg (qW.trans (hwg.mono qW.size))
           have x0 := cell_later hwg d0
           have x1 := cell_later hwg d1
           have x2 := cell_later hwg d2
           unfold grows
           go_simp
           first
             | exact grows_value _ _
             | (apply grows_call; go_at_call 17; exact hse.out wg)
         intro K hK
         go_simp
         refine hK _ ?_
         clear hK K))
    apply wpGrow_rel (V := VPg true 7 exC) rfl
    · intro wg hwg hf
      unfold grows
      go_simp
      refine ⟨Below.refl _ _, ?_⟩
      go_at_call 31
      exact (example_any wg).mono fun e w' ⟨v, he, hp, hbb⟩ => ⟨v, he, hbb, hp.lower (Nat.zero_le _)⟩
    intro xv hxv K hK
    obtain ⟨wx, _, hbx⟩ := hxv
    have hbo := hbx
    obtain ⟨A10, c10, rfl, _⟩ := hbo
    go_simp
    refine hK _ ?_
    clear hK K hbx
    apply wpGrow_is rfl
    · intro wg hwg hf
      have hb6 := hf ⟨10, .data⟩ (by simp) rfl _ _ rfl
      obtain ⟨A6, c6, he6, hc6⟩ := hb6
      cases he6
      obtain ⟨A7, c7, he7, hc7⟩ := HS3.out.later (qW.trans (hwg.mono qW.size))
      cases he7
      clear hf
      unfold grows
      go_simp
      apply grows_call
      go_at_call 20
      exact refPSame_at true _ _ _ _ _ _ _ _ _ _ wg hc7 hc6 (by decide)
    intro K hK
    go_simp
    refine hK _ ?_
    clear hK K
    repeat (first
      | (apply wpGrow_skip rfl
         intro K hK
         go_simp
         refine hK _ ?_
         clear hK K)
      | (apply wpGrow_is rfl
         · intro wg hwg _
           have x3 := cell_later hwg d3
           have x4 := cell_later hwg d4
           have x5 := cell_later hwg d5
           have x6 := cell_later hwg d6
           have x7 := cell_later hwg d7
           have x8 := cell_later hwg d8
           unfold grows
           go_simp
           first
             | exact grows_value _ _
             | (fail)
         intro K hK
         go_simp
         refine hK _ ?_
         clear hK K))
    apply wpGrow_rel (V := VPg true 7 exC) rfl
    · intro wg hwg hf
      unfold grows
      go_simp
      refine ⟨Below.refl _ _, ?_⟩
      go_at_call 31
      exact (example_any wg).mono fun e w' ⟨v, he, hp, hbb⟩ => ⟨v, he, hbb, hp.lower (Nat.zero_le _)⟩
    intro xv hxv K hK
    obtain ⟨wx, _, hbx⟩ := hxv
    have hbo := hbx
    obtain ⟨A42, c42, rfl, _⟩ := hbo
    go_simp
    refine hK _ ?_
    clear hK K hbx
    apply wpGrow_is rfl
    · intro wg hwg hf
      have hb6 : VPg true 7 exC (.agg #[.bool true, .int .i64 7, .slice A42 exC.length c42]) wg := hf ⟨42, .data⟩ (by simp) rfl _ _ (by kernel_rfl)
      obtain ⟨A6, c6, he6, hc6⟩ := hb6
      cases he6
      clear hf
      unfold grows
      go_simp
      apply grows_call
      go_at_call 15
      have := psize_any _ true 7 _ exC wg (by decide) HM.out hc6
      rw [exSz] at this
      exact this
    intro K hK
    go_simp
    refine hK _ ?_
    clear hK K
    repeat (first
      | (apply wpGrow_skip rfl
         intro K hK
         go_simp
         refine hK _ ?_
         clear hK K)
      | (apply wpGrow_is rfl
         · intro wg hwg _
           have x3 := cell_later hwg d3
           have x4 := cell_later hwg d4
           have x5 := cell_later hwg d5
           have x6 := cell_later hwg d6
           have x7 := cell_later hwg d7
           have x8 := cell_later hwg d8
           unfold grows
           go_simp
           first
             | exact grows_value _ _
             | (fail)
         intro K hK
         go_simp
         refine hK _ ?_
         clear hK K))
    apply wpGrow_rel (V := VPg true 7 exC) rfl
    · intro wg hwg hf
      unfold grows
      go_simp
      refine ⟨Below.refl _ _, ?_⟩
      go_at_call 26
      exact (pjoin_any _ _ true true 7 7 _ _ (exC.take 1) (exC.drop 1) wg (by decide) (by decide) (HCA2.out.up (qW.trans (hwg.mono qW.size))) (HCB2.out.up (qW.trans (hwg.mono qW.size)))).mono fun e w' ⟨v, he, hp, hbb⟩ => ⟨v, he, hbb, (hp.lower (Nat.zero_le _) : PgIs 0 w' v true 7 exC)⟩
    intro xv hxv K hK
    obtain ⟨wx, _, hbx⟩ := hxv
    have hbo := hbx
    obtain ⟨A49, c49, rfl, _⟩ := hbo
    go_simp
    refine hK _ ?_
    clear hK K hbx
    apply wpGrow_rel (V := VPg true 7 exC) rfl
    · intro wg hwg hf
      unfold grows
      go_simp
      refine ⟨Below.refl _ _, ?_⟩
      go_at_call 31
      exact (example_any wg).mono fun e w' ⟨v, he, hp, hbb⟩ => ⟨v, he, hbb, hp.lower (Nat.zero_le _)⟩
    intro xv hxv K hK
    obtain ⟨wx, _, hbx⟩ := hxv
    have hbo := hbx
    obtain ⟨A50, c50, rfl, _⟩ := hbo
    go_simp
    refine hK _ ?_
    clear hK K hbx
    apply wpGrow_is rfl
    · intro wg hwg hf
      have hb6 : VPg true 7 exC (.agg #[.bool true, .int .i64 7, .slice A49 exC.length c49]) wg := hf ⟨49, .data⟩ (by simp) rfl _ _ (by kernel_rfl)
      have hb7 : VPg true 7 exC (.agg #[.bool true, .int .i64 7, .slice A50 exC.length c50]) wg := hf ⟨50, .data⟩ (by simp) rfl _ _ (by kernel_rfl)
      obtain ⟨A6, c6, he6, hc6⟩ := hb6
      cases he6
      obtain ⟨A7, c7, he7, hc7⟩ := hb7
      cases he7
      clear hf
      unfold grows
      go_simp
      apply grows_call
      go_at_call 27
      exact psame_at true _ _ _ _ _ _ _ _ _ _ wg hc6 hc7 (by decide)
    intro K hK
    go_simp
    refine hK _ ?_
    clear hK K
    repeat (first
      | (apply wpGrow_skip rfl
         intro K hK
         go_simp
         refine hK _ ?_
         clear hK K)
      | (apply wpGrow_is rfl
         · intro wg hwg _
           skip
           unfold grows
           go_simp
           first
             | exact grows_value _ _
             | (fail)
         intro K hK
         go_simp
         refine hK _ ?_
         clear hK K))
    refine wpGrow_end (fun wg hwg _ => ?_)
    go_wp2_with fail
    go_ret
    exact ⟨rfl, qw8.trans ((qW.trans (hwg.mono qW.size)).mono qw8.size)⟩
  · apply And.intro
    · repeat (first | exact trivial | (refine ⟨Stays.is _, ?_⟩) | (refine ⟨Stays.bs _, ?_⟩) | (refine ⟨Stays.pg _ _ _, ?_⟩))
    · rfl
end Go.Proofs.YtlidbgidbpaenaaDoor
