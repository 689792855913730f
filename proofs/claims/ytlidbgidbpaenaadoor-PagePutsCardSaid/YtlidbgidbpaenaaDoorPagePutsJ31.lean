/- What the proof of PagePuts needs, part 31. -/
import Derived.Test.YtlidbgidbpaenaaDoorPagePutsJ20
import Derived.Test.YtlidbgidbpaenaaDoorPagePutsJ30

namespace Go.Proofs.YtlidbgidbpaenaaDoor
open Go Go.RowKit
set_option linter.unusedVariables false

set_option maxHeartbeats 4000000 in
set_option maxRecDepth 100000 in
theorem refFields_at (S : Nat → Prop) (leaf : Bool) (next : Int) (nn : Nat) (v0 : Value) (cs : List Cel) (w : World) (hcase : (next ≤ 0 ∧ nn = 0) ∨ (0 < next ∧ next = (nn : Int))) (h64 : nn < 9223372036854775808) (hm : Mid cs) (hr : Cs S w v0 cs) :
    Calls Tryd.prog 16 #[.agg #[.bool leaf, .int .i64 next, v0]] w fun e w' => e = .returned (.string (st (pgF leaf next cs))) ∧ Below w.heap.size w w' := by
  have hlt := hr.lt
  obtain ⟨A, c, rfl, hlc, hcm, hA0, hA⟩ := hlt.at
  have HA := Lib.hid hA
  have HX := Lib.hid hm.2
  have hml := hm.1
  have hb := Blk.new w 24 #[.bool leaf, .int .i64 next, .slice A cs.length c]
  have e1 : (w.alloc (.cells #[.bool leaf, .int .i64 next, .slice A cs.length c] 24)).cell? ⟨w.heap.size, 1, none⟩ = some (.int .i64 next) := hb.cell 1
  have e2 : (w.alloc (.cells #[.bool leaf, .int .i64 next, .slice A cs.length c] 24)).cell? ⟨w.heap.size, 2, none⟩ = some (.slice A cs.length c) := hb.cell 2
  have q1 : Below w.heap.size w (w.alloc (.cells #[.bool leaf, .int .i64 next, .slice A cs.length c] 24)) := (Below.refl _ _).alloc (Nat.le_refl _) _
  have hn64 : nn < U64 := by unfold U64; omega
  have hc64 : cs.length < U64 := by unfold U64; omega
  have v1 := varB_le10 hn64
  have v2 := varB_le10 hc64
  have s1 := Lib.hid (fun wg : World => refVar_any nn wg hn64)
  have s2 := Lib.hid (fun wg : World => refVar_any cs.length wg hc64)
  have hw1 : IntKind.u64.wrap (nn : Int) = (nn : Int) := wrap_u64 (by omega) (by unfold U64; omega)
  have hw2 : IntKind.u64.wrap (cs.length : Int) = (cs.length : Int) := wrap_u64 (by omega) (by unfold U64; omega)
  have hnt : next.toNat = nn := by rcases hcase with ⟨h, rfl⟩ | ⟨h, rfl⟩ <;> omega
  obtain ⟨PF, hPF⟩ : ∃ PF, pgF leaf next cs = PF := ⟨_, rfl⟩
  have HP : Hid (PF = (if leaf then [1] else [0]) ++ (varB nn ++ varB cs.length) ++ cs.flatMap celB) := by
    rw [Hid, ← hPF]
    unfold pgF
    rw [hnt]
    simp
  rw [hPF]
  clear hPF
  have HH := Lib.hid hb
  clear hA hr hlt hb
  generalize varB nn = x1 at *
  generalize varB cs.length = x2 at *
  have a1 : ¬ 9223372036854775807 < x1.length + x2.length := by omega
  have a2 : ¬ 9223372036854775807 < 1 + (x1.length + x2.length) := by omega
  have k0 : ∀ x, (⟨#[0]⟩ : ByteArray) ++ st x = st (0 :: x) := fun _ => rfl
  have k1 : ∀ x, (⟨#[1]⟩ : ByteArray) ++ st x = st (1 :: x) := fun _ => rfl
  have k2 : (⟨#[0]⟩ : ByteArray).size = 1 := rfl
  have k3 : (⟨#[1]⟩ : ByteArray).size = 1 := rfl
  have z0 : Hid (([0] : List UInt8) ++ (x1 ++ x2) = 0 :: (x1 ++ x2)) := rfl
  have z1 : Hid (([1] : List UInt8) ++ (x1 ++ x2) = 1 :: (x1 ++ x2)) := rfl
  rcases hcase with ⟨h0, rfl⟩ | ⟨h0, rfl⟩ <;> cases leaf
  all_goals
    skip
    go_enter Tryd.func16, Tryd.ntmps16
    go_wp2_with fail
    refine wp_region_grow_lit (by kernel_rfl) (by kernel_rfl) ?_
    apply Exists.intro
    apply And.intro
    · repeat (first
        | (apply wpGrow_skip rfl
           intro K hK
           go_simp
           refine hK _ ?_
           clear hK K)
        | (apply wpGrow_is rfl
           · intro wg hwg _
             have c1' := cell_later hwg e1
             have c2' := cell_later hwg e2
             unfold grows
             go_simp
             first
               | exact grows_value _ _
               | (apply grows_call; go_at_call_of 41 (Value.int .u64 0); exact s1.out wg)
               | (apply grows_call; go_at_call_of 41 (Value.int .u64 (nn : Int)); exact s1.out wg)
               | (apply grows_call; go_at_call_of 41 (Value.int .u64 (cs.length : Int)); exact s2.out wg)
           intro K hK
           go_simp
           refine hK _ ?_
           clear hK K))
      refine wpGrow_end (fun wg hwg _ => ?_)
      have HG := Lib.hid (HH.out.later hwg)
      have qg := q1.trans (hwg.mono q1.size)
      clear hwg e1 e2
      go_wp2_with fail
      go_loopw [3, 5] (fun sv iv wr => ∃ (i : Nat) (d : List UInt8), sv = .string (st d) ∧ iv = .int .i64 (i : Int) ∧ i ≤ cs.length ∧ d.length ≤ 100 + 131092 * i ∧ Hid (PF = d ++ (cs.drop i).flatMap celB) ∧ Below wg.heap.size wg wr) (fun _ iv _ => cs.length - (intOf iv).toNat)
      case atStart => exact ⟨0, _, rfl, rfl, by omega, by simp only [List.length_cons, List.length_append]; omega, HP.out, Below.refl _ _⟩
      case round =>
        obtain ⟨i, d, rfl, rfl, hi, hd, hE, hbl⟩ := hrel
        have qr := qg.trans (hbl.mono qg.size)
        have hbr := HG.out.later hbl
        have g2 : wr.cell? ⟨w.heap.size, 2, none⟩ = some (.slice A cs.length c) := hbr.cell 2
        by_cases hil : i < cs.length
        · obtain ⟨b, o, rfl, hbs, hc⟩ := HA.out (by omega)
          have c0 : wr.cell? ⟨b, o + i * 2, none⟩ = some (.string (st cs[i].1)) := (qr.cell (p := ⟨b, o + i * 2, none⟩) hbs).trans (hc i hil).1
          have c1 : wr.cell? ⟨b, o + i * 2 + 1, none⟩ = some (.string (st cs[i].2)) := (qr.cell (p := ⟨b, o + i * 2 + 1, none⟩) hbs).trans (hc i hil).2
          have hx := HX.out _ (List.getElem_mem hil)
          have hE2 : Hid (PF = (d ++ (textB cs[i].1 ++ textB cs[i].2)) ++ (cs.drop (i + 1)).flatMap celB) := by
            rw [Hid, hE.out, List.drop_eq_getElem_cons hil, List.flatMap_cons]
            unfold celB
            simp only [List.append_assoc]
          clear hc hE
          generalize cs[i] = x at *
          obtain ⟨k, v⟩ := x
          simp only at c0 c1 hx hE2
          have l1 := textB_len hx.1
          have l2 := textB_len hx.2
          have t1 := Lib.hid (fun wg : World => refText_any k wg (by omega))
          have t2 := Lib.hid (fun wg : World => refText_any v wg (by omega))
          generalize textB k = x1 at *
          generalize textB v = x2 at *
          have a1 : ¬ 9223372036854775807 < x1.length + x2.length := by omega
          have a2 : ¬ 9223372036854775807 < d.length + (x1.length + x2.length) := by omega
          go_wp2_with fail
          refine wp_region_grow_lit (by kernel_rfl) (by kernel_rfl) ?_
          apply Exists.intro
          apply And.intro
          · repeat (first
              | (apply wpGrow_skip rfl
                 intro K hK
                 go_simp
                 refine hK _ ?_
                 clear hK K)
              | (apply wpGrow_is rfl
                 · intro wg hwg _
                   have c0' := cell_later hwg c0
                   have c1' := cell_later hwg c1
                   have g2' := cell_later hwg g2
                   unfold grows
                   go_simp
                   first
                     | exact grows_value _ _
                     | (apply grows_call; go_at_call_of 42 (Value.string (st k)); exact t1.out wg)
                     | (apply grows_call; go_at_call_of 42 (Value.string (st v)); exact t2.out wg)
                 intro K hK
                 go_simp
                 refine hK _ ?_
                 clear hK K))
            refine wpGrow_end (fun wh hwh _ => ?_)
            go_wp2_with fail
            go_roundw
            case rel => exact ⟨i + 1, _, rfl, by go_num, by omega, by simp only [List.length_append]; omega, hE2, hbl.trans (hwh.mono hbl.size)⟩
            case measure => simp [intOf]; omega
          · apply And.intro
            · repeat (first | exact trivial | (refine ⟨Stays.is _, ?_⟩) | (refine ⟨Stays.bs _, ?_⟩) | (refine ⟨Stays.pg _ _ _, ?_⟩))
            · rfl
        · obtain rfl : i = cs.length := by omega
          have hE2 : Hid (PF = d) := by rw [Hid, hE.out, List.drop_length]; simp
          go_wp2_with fail
          go_ret
          rw [hE2.out]
          exact ⟨rfl, qr⟩
    · apply And.intro
      · repeat (first | exact trivial | (refine ⟨Stays.is _, ?_⟩) | (refine ⟨Stays.bs _, ?_⟩) | (refine ⟨Stays.pg _ _ _, ?_⟩))
      · rfl
theorem refFields_any (S : Nat → Prop) (leaf : Bool) (next : Int) (v0 : Value) (cs : List Cel) (w : World) (hn : -9223372036854775808 ≤ next ∧ next ≤ 9223372036854775807) (hm : Mid cs) (hr : Cs S w v0 cs) :
    Calls Tryd.prog 16 #[.agg #[.bool leaf, .int .i64 next, v0]] w fun e w' => e = .returned (.string (st (pgF leaf next cs))) ∧ Below w.heap.size w w' :=
  refFields_at S leaf next next.toNat v0 cs w (by omega) (by omega) hm hr

set_option maxHeartbeats 2000000 in
set_option maxRecDepth 100000 in
theorem refRises_any (R : Bool) (S : Nat → Prop) (leaf : Bool) (next : Int) (v0 : Value) (cs : List Cel) (w : World) (hl : cs.length ≤ 1000000) (hr : Cs S w v0 cs) (hR : R = true ↔ RisesP cs) :
    Calls Tryd.prog 21 #[.agg #[.bool leaf, .int .i64 next, v0]] w fun e w' => e = .returned (.bool R) ∧ Below w.heap.size w w' := by
  have hlt := hr.lt
  obtain ⟨A, c, rfl, hlc, hcm, hA0, hA⟩ := hlt.at
  have HA := Lib.hid hA
  have HR := Lib.hid hR
  have hb := Blk.new w 24 #[.bool leaf, .int .i64 next, .slice A cs.length c]
  have q1 : Below w.heap.size w (w.alloc (.cells #[.bool leaf, .int .i64 next, .slice A cs.length c] 24)) := (Below.refl _ _).alloc (Nat.le_refl _) _
  clear hA hr hlt hR
  go_enter Tryd.func21, Tryd.ntmps21
  go_wp2_with fail
  generalize hW : w.alloc (.cells #[.bool leaf, .int .i64 next, .slice A cs.length c] 24) = W at *
  clear hW
  have g2 : W.cell? ⟨w.heap.size, 2, none⟩ = some (.slice A cs.length c) := hb.cell 2
  go_loopw [3] (fun iv wr => ∃ j : Nat, iv = .int .i64 ((j + 1 : Nat) : Int) ∧ j ≤ cs.length ∧ Hid (∀ m, (h : m + 1 < cs.length) → m < j → Op.bytesLess (cs[m]'(by omega)).1 cs[m + 1].1 = true) ∧ ∃ n, wr = W.drewN n) (fun iv _ => cs.length + 1 - (intOf iv).toNat)
  case atStart => exact ⟨0, rfl, by omega, (fun m _ h => by omega), 0, rfl⟩
  case round =>
    obtain ⟨j, rfl, hj, hall, n, rfl⟩ := hrel
    by_cases hil : j + 1 < cs.length
    · obtain ⟨b, o, rfl, hbs, hc⟩ := HA.out (by omega)
      have hjl : j < cs.length := by omega
      have c0 : W.cell? ⟨b, o + j * 2, none⟩ = some (.string (st cs[j].1)) := (q1.cell (p := ⟨b, o + j * 2, none⟩) hbs).trans (hc j hjl).1
      have c1 : W.cell? ⟨b, o + (j + 1) * 2, none⟩ = some (.string (st cs[j + 1].1)) := (q1.cell (p := ⟨b, o + (j + 1) * 2, none⟩) hbs).trans (hc (j + 1) hil).1
      have HN : Hid (Op.bytesLess cs[j].1 cs[j + 1].1 = true → ∀ m, (h : m + 1 < cs.length) → m < j + 1 → Op.bytesLess (cs[m]'(by omega)).1 cs[m + 1].1 = true) := fun h m hm1 hm2 => by
        rcases Nat.lt_or_ge m j with h3 | h3
        · exact hall.out m hm1 h3
        · obtain rfl : m = j := by omega
          exact h
      have HF : Hid (Op.bytesLess cs[j].1 cs[j + 1].1 = false → R = false) := fun h => by
        cases R with
        | false => rfl
        | true => have := HR.out.1 rfl j hil; rw [h] at this; cases this
      generalize cs[j].1 = x at *
      generalize cs[j + 1].1 = y at *
      have hwj : IntKind.i64.wrap (j : Int) = (j : Int) := IntWalk.i64_in _ (by omega)
      clear hc hall
      cases hbs2 : Op.bytesLess x y with
      | true =>
        have HE := Lib.hid (HN.out hbs2)
        go_wp2_with fail
        go_quiet (fail)
        go_wp2_with fail
        go_roundw
        case rel => exact ⟨j + 1, by go_num, by omega, HE, _, rfl⟩
        case measure => simp [intOf]; omega
      | false =>
        have HE := Lib.hid (HF.out hbs2)
        go_wp2_with fail
        go_quiet (fail)
        go_wp2_with fail
        go_ret
        exact ⟨by rw [HE.out]; rfl, below_drewN (below_drewN q1 _) _⟩
    · have HE : Hid (R = true) := HR.out.2 (fun m hm1 => hall.out m hm1 (by omega))
      go_wp2_with fail
      go_ret
      exact ⟨by rw [HE.out]; rfl, below_drewN q1 _⟩

set_option maxHeartbeats 2000000 in
set_option maxRecDepth 100000 in
theorem refFind_any (S : Nat → Prop) (leaf : Bool) (next : Int) (v0 : Value) (cs : List Cel) (key : List UInt8) (w : World) (hl : cs.length ≤ 1000000) (hr : Cs S w v0 cs) :
    Calls Tryd.prog 23 #[.agg #[.bool leaf, .int .i64 next, v0], .string (st key)] w fun e w' => e = .returned (.tuple #[.int .i64 (findK cs key : Int), .bool (isK cs key)]) ∧ Below w.heap.size w w' := by
  have hlt := hr.lt
  obtain ⟨A, c, rfl, hlc, hcm, hA0, hA⟩ := hlt.at
  have HA := Lib.hid hA
  have hb := Blk.new w 24 #[.bool leaf, .int .i64 next, .slice A cs.length c]
  have q1 : Below w.heap.size w (w.alloc (.cells #[.bool leaf, .int .i64 next, .slice A cs.length c] 24)) := (Below.refl _ _).alloc (Nat.le_refl _) _
  clear hA hr hlt
  go_enter Tryd.func23, Tryd.ntmps23
  go_wp2_with fail
  generalize hW : w.alloc (.cells #[.bool leaf, .int .i64 next, .slice A cs.length c] 24) = W at *
  clear hW
  have g2 : W.cell? ⟨w.heap.size, 2, none⟩ = some (.slice A cs.length c) := hb.cell 2
  go_loopw [6] (fun iv wr => ∃ i : Nat, iv = .int .i64 (i : Int) ∧ i ≤ cs.length ∧ Hid (i ≤ findK cs key) ∧ ∃ n, wr = W.drewN n) (fun iv _ => cs.length - (intOf iv).toNat)
  case atStart => exact ⟨0, rfl, by omega, Nat.zero_le _, 0, rfl⟩
  case round =>
    obtain ⟨i, rfl, hi, hall, n, rfl⟩ := hrel
    by_cases hil : i < cs.length
    · obtain ⟨b, o, rfl, hbs, hc⟩ := HA.out (by omega)
      have c0 : W.cell? ⟨b, o + i * 2, none⟩ = some (.string (st cs[i].1)) := (q1.cell (p := ⟨b, o + i * 2, none⟩) hbs).trans (hc i hil).1
      have HN : Hid (Op.bytesLess cs[i].1 key = true → i + 1 ≤ findK cs key) := fun h => by
        rcases Nat.lt_or_ge i (findK cs key) with h2 | h2
        · exact h2
        · have e : findK cs key = i := Nat.le_antisymm h2 hall.out
          have := findK_at (cs := cs) (k := key) (by omega)
          simp only [e] at this
          rw [h] at this
          cases this
      have HF : Hid (Op.bytesLess cs[i].1 key = false → findK cs key = i ∧ isK cs key = (cs[i].1 == key)) := fun h => by
        have e : findK cs key = i := by
          rcases Nat.lt_or_ge i (findK cs key) with h2 | h2
          · have := findK_lt h2
            rw [h] at this
            cases this
          · exact Nat.le_antisymm h2 hall.out
        refine ⟨e, ?_⟩
        unfold isK
        rw [e, List.getElem?_eq_getElem hil]
      generalize cs[i].1 = x at *
      clear hc hall
      cases hbs2 : Op.bytesLess x key with
      | true =>
        have HE := Lib.hid (HN.out hbs2)
        go_wp2_with fail
        go_roundw
        case rel => exact ⟨i + 1, by go_num, by omega, HE, _, rfl⟩
        case measure => simp [intOf]; omega
      | false =>
        have HE := Lib.hid (HF.out hbs2).1
        have HE2 := Lib.hid (HF.out hbs2).2
        by_cases hk : x = key
        · subst hk
          go_wp2_with fail
          go_quiet (fail)
          go_wp2_with fail
          go_ret2
          exact ⟨by rw [HE.out, HE2.out]; simp, below_drewN (below_drewN q1 _) _⟩
        · go_wp2_with fail
          go_quiet (fail)
          go_wp2_with fail
          go_ret2
          exact ⟨by rw [HE.out, HE2.out]; simp, below_drewN (below_drewN q1 _) _⟩
    · obtain rfl : i = cs.length := by omega
      have HE : Hid (findK cs key = cs.length) := Nat.le_antisymm (findK_le _ _) hall.out
      have HE2 : Hid (isK cs key = false) := by
        unfold isK
        rw [Hid, HE.out, List.getElem?_eq_none (Nat.le_refl _)]
      go_wp2_with fail
      go_ret2
      exact ⟨by rw [HE.out, HE2.out]; rfl, below_drewN q1 _⟩
end Go.Proofs.YtlidbgidbpaenaaDoor
