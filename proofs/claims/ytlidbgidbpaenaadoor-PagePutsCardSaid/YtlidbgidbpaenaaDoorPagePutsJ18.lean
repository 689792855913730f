/- What the proof of PagePuts needs, part 18. -/
import Derived.Test.YtlidbgidbpaenaaDoorPagePutsJ17

namespace Go.Proofs.YtlidbgidbpaenaaDoor
open Go Go.RowKit
set_option linter.unusedVariables false

set_option maxHeartbeats 2000000 in
set_option maxRecDepth 100000 in
theorem refPSame_at (R : Bool) (S S' : Nat → Prop) (l1 l2 : Bool) (n1 n2 : Int) (va vb : Value) (us vs : List Cel) (w : World) (ha : Cs S w va us) (hb : Cs S' w vb vs) (hR : R = decide (l1 = l2 ∧ n1 = n2 ∧ us = vs)) :
    Calls Tryd.prog 20 #[.agg #[.bool l1, .int .i64 n1, va], .agg #[.bool l2, .int .i64 n2, vb]] w fun e w' => e = .returned (.bool R) ∧ Below w.heap.size w w' := by
  have ha' := ha.lt
  have hb' := hb.lt
  obtain ⟨A, c, rfl, hlc, hcm, hA0, hA⟩ := ha'.at
  obtain ⟨B, d, rfl, hld, hdm, hB0, hB⟩ := hb'.at
  have HA := Lib.hid hA
  have HB := Lib.hid hB
  have HR := Lib.hid hR
  have hm : us.length ≤ 9223372036854775807 := by unfold maxLen at hcm; omega
  have q2 : Below w.heap.size w ((w.alloc (.cells #[.bool l1, .int .i64 n1, .slice A us.length c] 24)).alloc (.cells #[.bool l2, .int .i64 n2, .slice B vs.length d] 24)) := ((Below.refl _ _).alloc (Nat.le_refl _) _).alloc (by simp) _
  have b1 : Blk ((w.alloc (.cells #[.bool l1, .int .i64 n1, .slice A us.length c] 24)).alloc (.cells #[.bool l2, .int .i64 n2, .slice B vs.length d] 24)) w.heap.size 24 #[.bool l1, .int .i64 n1, .slice A us.length c] := (Blk.new _ _ _).alloc _
  have b2 : Blk ((w.alloc (.cells #[.bool l1, .int .i64 n1, .slice A us.length c] 24)).alloc (.cells #[.bool l2, .int .i64 n2, .slice B vs.length d] 24)) (w.heap.size + 1) 24 #[.bool l2, .int .i64 n2, .slice B vs.length d] := Blk.new1 _ _ _ _
  clear hA hB ha hb ha' hb' hR
  have hcase : (l1 = l2 ∧ n1 = n2 ∧ us.length = vs.length) ∨ (l1 = l2 ∧ n1 = n2 ∧ ¬ us.length = vs.length) ∨ (l1 = l2 ∧ ¬ n1 = n2) ∨ ¬ l1 = l2 := by
    by_cases h1 : l1 = l2
    · by_cases h2 : n1 = n2
      · by_cases h3 : us.length = vs.length
        · exact .inl ⟨h1, h2, h3⟩
        · exact .inr (.inl ⟨h1, h2, h3⟩)
      · exact .inr (.inr (.inl ⟨h1, h2⟩))
    · exact .inr (.inr (.inr h1))
  rcases hcase with ⟨h1, h2, hlen⟩ | ⟨h1, h2, hlen⟩ | ⟨h1, h2⟩ | h1
  · subst h1 h2
    have HL := Lib.hid hlen
    have hlen1 : us.length ≤ vs.length := by omega
    have hlen2 : ((us.length : Int) != (vs.length : Int)) = false := by rw [hlen]; simp
    have t1 : (l1 != l1) = false := by simp
    clear hlen
    go_enter Tryd.func20, Tryd.ntmps20
    go_wp2_with fail
    generalize hW : (w.alloc (.cells #[.bool l1, .int .i64 n1, .slice A us.length c] 24)).alloc (.cells #[.bool l1, .int .i64 n1, .slice B vs.length d] 24) = W at *
    clear hW
    have p1 : W.cell? ⟨w.heap.size, 2, none⟩ = some (.slice A us.length c) := b1.cell 2
    have p2 : W.cell? ⟨w.heap.size + 1, 2, none⟩ = some (.slice B vs.length d) := b2.cell 2
    go_loopw [5] (fun iv wr => ∃ i : Nat, iv = .int .i64 (i : Int) ∧ i ≤ us.length ∧ Hid (us.take i = vs.take i) ∧ ∃ n, wr = W.drewN n) (fun iv _ => us.length - (intOf iv).toNat)
    case atStart => exact ⟨0, rfl, by omega, by simp [Hid], 0, rfl⟩
    case round =>
      obtain ⟨i, rfl, hi, ht, n, rfl⟩ := hrel
      by_cases hil : i < us.length
      · obtain ⟨b, o, rfl, hbs, hca⟩ := HA.out (by omega)
        obtain ⟨b', o', rfl, hbs', hcb⟩ := HB.out (by omega)
        have hvl : i < vs.length := by omega
        have c0 : W.cell? ⟨b, o + i * 2, none⟩ = some (.string (st us[i].1)) := (q2.cell (p := ⟨b, o + i * 2, none⟩) hbs).trans (hca i hil).1
        have c1 : W.cell? ⟨b, o + i * 2 + 1, none⟩ = some (.string (st us[i].2)) := (q2.cell (p := ⟨b, o + i * 2 + 1, none⟩) hbs).trans (hca i hil).2
        have d0 : W.cell? ⟨b', o' + i * 2, none⟩ = some (.string (st vs[i].1)) := (q2.cell (p := ⟨b', o' + i * 2, none⟩) hbs').trans (hcb i hvl).1
        have d1 : W.cell? ⟨b', o' + i * 2 + 1, none⟩ = some (.string (st vs[i].2)) := (q2.cell (p := ⟨b', o' + i * 2 + 1, none⟩) hbs').trans (hcb i hvl).2
        have HS : Hid (us[i] = vs[i] → us.take (i + 1) = vs.take (i + 1)) := fun h => by rw [List.take_succ_eq_append_getElem hil, List.take_succ_eq_append_getElem hvl, h, ht.out]
        have HN : Hid (us[i] ≠ vs[i] → R = false) := fun h => by rw [HR.out]; exact decide_eq_false (fun e => h (by have := e.2.2; subst this; rfl))
        clear hca hcb
        generalize us[i] = x at *
        generalize vs[i] = y at *
        obtain ⟨q, t⟩ := x
        obtain ⟨q', t'⟩ := y
        simp only at c0 c1 d0 d1
        by_cases hxy : q = q' ∧ t = t'
        · obtain ⟨rfl, rfl⟩ := hxy
          have HE := Lib.hid (HS.out rfl)
          go_wp2_with fail
          go_quiet (fail)
          go_wp2_with fail
          go_roundw
          case rel => exact ⟨i + 1, by go_num, by omega, HE, _, rfl⟩
          case measure => simp [intOf]; omega
        · have HE := Lib.hid (HN.out (fun e => hxy (by injection e with a b; exact ⟨a, b⟩)))
          by_cases hq : q = q'
          · subst hq
            have ht' : ¬ t = t' := fun e => hxy ⟨rfl, e⟩
            go_wp2_with fail
            go_quiet (fail)
            go_wp2_with fail
            go_ret
            exact ⟨by rw [HE.out]; rfl, below_drewN (below_drewN q2 _) _⟩
          · go_wp2_with fail
            go_quiet (fail)
            go_wp2_with fail
            go_ret
            exact ⟨by rw [HE.out]; rfl, below_drewN (below_drewN q2 _) _⟩
      · obtain rfl : i = us.length := by omega
        have HE : Hid (R = true) := by
          have := ht.out
          rw [List.take_length, HL.out, List.take_length] at this
          rw [Hid, HR.out]
          simp [this]
        go_wp2_with fail
        go_ret
        exact ⟨by rw [HE.out]; rfl, below_drewN q2 _⟩
  · subst h1 h2
    have HE : Hid (R = false) := by rw [Hid, HR.out]; exact decide_eq_false (fun e => hlen (by rw [e.2.2]))
    have t1 : ((us.length : Int) != (vs.length : Int)) = true := by rw [bne_iff_ne]; omega
    have t2 : (l1 != l1) = false := by simp
    clear hlen
    go_enter Tryd.func20, Tryd.ntmps20
    go_wp2_with fail
    go_ret
    exact ⟨by rw [HE.out]; rfl, q2⟩
  · subst h1
    have HE : Hid (R = false) := by rw [Hid, HR.out]; exact decide_eq_false (fun e => h2 e.2.1)
    have t1 : (n1 != n2) = true := by rw [bne_iff_ne]; exact h2
    have t2 : (l1 != l1) = false := by simp
    clear h2
    go_enter Tryd.func20, Tryd.ntmps20
    go_wp2_with fail
    go_ret
    exact ⟨by rw [HE.out]; rfl, q2⟩
  · have HE : Hid (R = false) := by rw [Hid, HR.out]; exact decide_eq_false (fun e => h1 e.1)
    clear HR
    cases l1 <;> cases l2
    case' false.false => exact absurd rfl h1
    case' true.true => exact absurd rfl h1
    all_goals
      go_enter Tryd.func20, Tryd.ntmps20
      go_wp2_with fail
      go_ret
      exact ⟨by rw [HE.out]; rfl, q2⟩

theorem Few.take_all {cs : List Cel} : (∀ c ∈ cs, c.1.length ≤ 600 ∧ c.2.length ≤ 600) ↔ ∀ i, (h : i < cs.length) → cs[i].1.length ≤ 600 ∧ cs[i].2.length ≤ 600 :=
  ⟨fun h i hi => h _ (List.getElem_mem hi), fun h c hc => by obtain ⟨i, hi, rfl⟩ := List.getElem_of_mem hc; exact h i hi⟩

set_option maxHeartbeats 2000000 in
set_option maxRecDepth 100000 in
theorem few_any (R : Bool) (S : Nat → Prop) (l1 : Bool) (n1 : Int) (va : Value) (us : List Cel) (w : World) (ha : Cs S w va us) (hR : R = true ↔ Few us) :
    Calls Tryd.prog 10 #[.agg #[.bool l1, .int .i64 n1, va]] w fun e w' => e = .returned (.bool R) ∧ Below w.heap.size w w' := by
  have ha' := ha.lt
  obtain ⟨A, c, rfl, hlc, hcm, hA0, hA⟩ := ha'.at
  have HA := Lib.hid hA
  have HR := Lib.hid hR
  have q1 : Below w.heap.size w (w.alloc (.cells #[.bool l1, .int .i64 n1, .slice A us.length c] 24)) := (Below.refl _ _).alloc (Nat.le_refl _) _
  have b1 := Blk.new w 24 #[.bool l1, .int .i64 n1, .slice A us.length c]
  clear hA ha ha' hR
  by_cases h100 : 100 < us.length
  · have HE : Hid (R = false) := by
      cases R with
      | false => rfl
      | true => exact absurd (HR.out.1 rfl).1 (by omega)
    have p2 : (w.alloc (.cells #[.bool l1, .int .i64 n1, .slice A us.length c] 24)).cell? ⟨w.heap.size, 2, none⟩ = some (.slice A us.length c) := b1.cell 2
    go_enter Tryd.func10, Tryd.ntmps10
    go_wp2_with fail
    go_ret
    exact ⟨by rw [HE.out]; rfl, q1⟩
  · go_enter Tryd.func10, Tryd.ntmps10
    go_wp2_with fail
    generalize hW : w.alloc (.cells #[.bool l1, .int .i64 n1, .slice A us.length c] 24) = W at *
    clear hW
    have p2 : W.cell? ⟨w.heap.size, 2, none⟩ = some (.slice A us.length c) := b1.cell 2
    go_loop [3] (fun iv => ∃ i : Nat, iv = .int .i64 (i : Int) ∧ i ≤ us.length ∧ Hid (∀ j, (h : j < us.length) → j < i → us[j].1.length ≤ 600 ∧ us[j].2.length ≤ 600)) (fun iv => us.length - (intOf iv).toNat)
    case atStart => exact ⟨0, rfl, by omega, fun j _ h => by omega⟩
    case round =>
      obtain ⟨i, rfl, hi, hall⟩ := hrel
      by_cases hil : i < us.length
      · obtain ⟨b, o, rfl, hbs, hc⟩ := HA.out (by omega)
        have c0 : W.cell? ⟨b, o + i * 2, none⟩ = some (.string (st us[i].1)) := (q1.cell (p := ⟨b, o + i * 2, none⟩) hbs).trans (hc i hil).1
        have c1 : W.cell? ⟨b, o + i * 2 + 1, none⟩ = some (.string (st us[i].2)) := (q1.cell (p := ⟨b, o + i * 2 + 1, none⟩) hbs).trans (hc i hil).2
        have HN : Hid (us[i].1.length ≤ 600 ∧ us[i].2.length ≤ 600 → ∀ j, (h : j < us.length) → j < i + 1 → us[j].1.length ≤ 600 ∧ us[j].2.length ≤ 600) := fun h j hj hji => by
          rcases Nat.lt_or_ge j i with h2 | h2
          · exact hall.out j hj h2
          · obtain rfl : j = i := by omega
            exact h
        have HX : Hid (¬ (us[i].1.length ≤ 600 ∧ us[i].2.length ≤ 600) → R = false) := fun h => by
          cases R with
          | false => rfl
          | true => exact absurd ((HR.out.1 rfl).2 _ (List.getElem_mem hil)) h
        generalize us[i] = x at *
        obtain ⟨k, v⟩ := x
        simp only at c0 c1 HN HX
        clear hc
        by_cases hk : 600 < k.length
        · have HE := Lib.hid (HX.out (fun h => by omega))
          go_wp2_with fail
          go_ret
          exact ⟨by rw [HE.out]; rfl, q1⟩
        · by_cases hv : 600 < v.length
          · have HE := Lib.hid (HX.out (fun h => by omega))
            go_wp2_with fail
            go_ret
            exact ⟨by rw [HE.out]; rfl, q1⟩
          · have HE := Lib.hid (HN.out ⟨by omega, by omega⟩)
            go_wp2_with fail
            go_round
            case rel => exact ⟨i + 1, by go_num, by omega, HE⟩
            case measure => simp [intOf]; omega
      · obtain rfl : i = us.length := by omega
        have HE : Hid (R = true) := HR.out.2 ⟨by omega, Few.take_all.2 (fun j hj => hall.out j hj hj)⟩
        go_wp2_with fail
        go_ret
        exact ⟨by rw [HE.out]; rfl, q1⟩

def exC : List Cel := [([97], [49]), ([99], [50])]
set_option maxHeartbeats 1000000 in
theorem example_any (w : World) : Calls Tryd.prog 31 #[] w fun e w' => ∃ v, e = .returned v ∧ PgIs w.heap.size w' v true 7 exC ∧ Below w.heap.size w w' := by
  go_enter Tryd.func31, Tryd.ntmps31
  go_wp2_with fail
  have b1 : Blk ((w.alloc (.cells #[.bool true, .int .i64 7, .slice (some ⟨w.heap.size + 1, 0, none⟩) 2 2] 24)).alloc (.cells #[.string ⟨#[97]⟩, .string ⟨#[49]⟩, .string ⟨#[99]⟩, .string ⟨#[50]⟩] 47)) w.heap.size 24 #[.bool true, .int .i64 7, .slice (some ⟨w.heap.size + 1, 0, none⟩) 2 2] := (Blk.new _ _ _).alloc _
  have b2 : Blk ((w.alloc (.cells #[.bool true, .int .i64 7, .slice (some ⟨w.heap.size + 1, 0, none⟩) 2 2] 24)).alloc (.cells #[.string ⟨#[97]⟩, .string ⟨#[49]⟩, .string ⟨#[99]⟩, .string ⟨#[50]⟩] 47)) (w.heap.size + 1) 47 #[.string ⟨#[97]⟩, .string ⟨#[49]⟩, .string ⟨#[99]⟩, .string ⟨#[50]⟩] := Blk.new1 _ _ _ _
  have hlt := b2.lt
  refine bodyPost_ret (results_cell1 rfl _ _ w.heap.size rfl b1 pageTy) rfl ⟨_, rfl, ⟨some ⟨w.heap.size + 1, 0, none⟩, 2, rfl, ?_⟩, ((Below.refl _ _).alloc (Nat.le_refl _) _).alloc (by simp) _⟩
  refine ⟨rfl, _, 2, rfl, by decide, by simp [maxLen], (fun h => by cases h), fun _ => ⟨_, 0, rfl, ⟨by omega, hlt⟩, fun j u hu => ?_⟩⟩
  rw [Nat.zero_add, b2.cell j]
  simpa [ccs, exC, st] using hu
end Go.Proofs.YtlidbgidbpaenaaDoor
