/- What the proof of PagePuts needs, part 7. -/
import Derived.Test.YtlidbgidbpaenaaDoorPagePutsJ1
import Derived.Test.YtlidbgidbpaenaaDoorPagePutsJ5
import Derived.Test.YtlidbgidbpaenaaDoorPagePutsJ6
import Derived.Deep.RegionWith

namespace Go.Proofs.YtlidbgidbpaenaaDoor
open Go Go.RowKit
set_option linter.unusedVariables false

set_option maxHeartbeats 400000 in
theorem ptext_any (s : List UInt8) (w : World) (hs : s.length ≤ 65536) :
    Calls Tryd.prog 63 #[.string (st s)] w fun e w' => e = .returned (.int .i64 ((textB s).length : Int)) ∧ w = w' := by
  have hwr : IntKind.u64.wrap (s.length : Int) = (s.length : Int) := wrap_u64 (by omega) (by unfold U64; omega)
  have h64 : s.length < U64 := by unfold U64; omega
  have h10 := varB_le10 h64
  have HT := Lib.hid (textB_len' s hs)
  go_enter Tryd.func63, Tryd.ntmps63
  go_wp2_with fail
  refine (size_any s.length w h64).mono ?_
  rintro e w1 ⟨rfl, rfl⟩
  have hadd : IntKind.i64.wrap (((varB s.length).length : Int) + (s.length : Int)) = ((varB s.length).length : Int) + (s.length : Int) := IntWalk.i64_in _ (by omega)
  generalize (varB s.length).length = a at *
  go_wp2_with fail
  go_ret
  exact ⟨by rw [HT.out]; simp, rfl⟩

/-- Cells that may be read: not too great to reckon with. -/
def Mid (cs : List Cel) : Prop := cs.length ≤ 1000000 ∧ ∀ c ∈ cs, c.1.length ≤ 65536 ∧ c.2.length ≤ 65536

set_option maxHeartbeats 1000000 in
set_option maxRecDepth 100000 in
theorem pbytes_any (S : Nat → Prop) (v0 : Value) (cs : List Cel) (w : World) (hm : Mid cs) (hr : Cs S w v0 cs) :
    Calls Tryd.prog 40 #[v0] w fun e w' => e = .returned (.int .i64 (celsN cs : Int)) ∧ Below w.heap.size w w' := by
  have hlt := hr.lt
  obtain ⟨A, c, rfl, hlc, hcm, hA0, hA⟩ := hlt.at
  have HA := Lib.hid hA
  have HX := Lib.hid hm.2
  have hml := hm.1
  clear hA hr hlt
  go_enter Tryd.func40, Tryd.ntmps40
  go_wp2_with fail
  go_loopw [3, 8] (fun nv iv wr => ∃ i : Nat, iv = .int .i64 (i : Int) ∧ nv = .int .i64 (celsN (cs.take i) : Int) ∧ i ≤ cs.length ∧ Below w.heap.size w wr) (fun _ iv _ => cs.length - (intOf iv).toNat)
  case atStart => exact ⟨0, rfl, rfl, by omega, Below.refl _ _⟩
  case round =>
    obtain ⟨i, rfl, rfl, hi, hbl⟩ := hrel
    have hsz := hbl.size
    by_cases hil : i < cs.length
    · obtain ⟨b, o, rfl, hbs, hc⟩ := HA.out (by omega)
      have c0 : wr.cell? ⟨b, o + i * 2, none⟩ = some (.string (st cs[i].1)) := (hbl.cell (p := ⟨b, o + i * 2, none⟩) hbs).trans (hc i hil).1
      have c1 : wr.cell? ⟨b, o + i * 2 + 1, none⟩ = some (.string (st cs[i].2)) := (hbl.cell (p := ⟨b, o + i * 2 + 1, none⟩) hbs).trans (hc i hil).2
      have hx := HX.out _ (List.getElem_mem hil)
      have HS := Lib.hid (celsN_take_succ hil)
      have hb1 := celB_le hx
      have hN : celsN (cs.take i) ≤ 131092 * 1000000 := by
        have := celsN_bound (cs.take i) (fun c hc => HX.out c (List.mem_of_mem_take hc))
        rw [List.length_take] at this
        have h2 : min i cs.length ≤ 1000000 := by omega
        exact Nat.le_trans this (Nat.mul_le_mul_left _ h2)
      generalize celsN (cs.take i) = N at *
      obtain ⟨x, hx0⟩ : ∃ x, cs[i] = x := ⟨_, rfl⟩
      rw [hx0] at c0 c1 hx HS hb1
      clear hx0 hc
      obtain ⟨k, v⟩ := x
      simp only at c0 c1 hx
      have HE : Hid ((celB (k, v)).length = (textB k).length + (textB v).length) := by unfold celB; rw [Hid, List.length_append]
      have l1 := textB_len hx.1
      have l2 := textB_len hx.2
      have s1 := fun (w : World) => ptext_any k w hx.1
      have s2 := fun (w : World) => ptext_any v w hx.2
      have hn := Blk.new wr 47 #[.string (st k), .string (st v)]
      have e0 : (wr.alloc (.cells #[.string (st k), .string (st v)] 47)).cell? ⟨wr.heap.size, 0, none⟩ = some (.string (st k)) := hn.cell 0
      have e1 : (wr.alloc (.cells #[.string (st k), .string (st v)] 47)).cell? ⟨wr.heap.size, 1, none⟩ = some (.string (st v)) := hn.cell 1
      have q1 := hbl.alloc hsz (.cells #[.string (st k), .string (st v)] 47)
      have hw1 : IntKind.i64.wrap (((textB k).length : Int) + ((textB v).length : Int)) = ((textB k).length : Int) + ((textB v).length : Int) := IntWalk.i64_in _ (by omega)
      have hw2 : IntKind.i64.wrap ((N : Int) + (((textB k).length : Int) + ((textB v).length : Int))) = (N : Int) + (((textB k).length : Int) + ((textB v).length : Int)) := IntWalk.i64_in _ (by omega)
      generalize (textB k).length = a at *
      generalize (textB v).length = b' at *
      go_wp2_with fail
      refine wp_region_grow_lit (by kernel_rfl) (by kernel_rfl) ?_
      apply Exists.intro
      apply And.intro
      · repeat (first
          | (apply wpGrow_skip rfl
             intro K hK
             go_simp
             refine hK _ ?_
             clear hK K)
          | (apply wpGrow_is rfl
             · intro wg hwg _
               have c0' := cell_later hwg e0
               have c1' := cell_later hwg e1
               unfold grows
               go_simp
               first
                 | exact grows_value _ _
                 | (apply grows_same; go_at_call_of 63 (Value.string (st k)); exact s1 _)
                 | (apply grows_same; go_at_call_of 63 (Value.string (st v)); exact s2 _)
             intro K hK
             go_simp
             refine hK _ ?_
             clear hK K))
        refine wpGrow_end (fun wg hwg _ => ?_)
        go_wp2_with fail
        go_roundw
        case rel => exact ⟨i + 1, by go_num, by rw [HS.out, HE.out]; go_num, by omega, q1.trans (hwg.mono q1.size)⟩
        case measure => simp [intOf]; omega
      · apply And.intro
        · repeat (first | exact trivial | (refine ⟨Stays.is _, ?_⟩) | (refine ⟨Stays.bs _, ?_⟩) | (refine ⟨Stays.pg _ _ _, ?_⟩))
        · rfl
    · obtain rfl : i = cs.length := by omega
      rw [List.take_length]
      go_wp2_with fail
      go_ret
      exact ⟨rfl, hbl⟩

set_option maxHeartbeats 400000 in
theorem great_any (k v : List UInt8) (w : World) (hk : k.length ≤ 65536) (hv : v.length ≤ 65536) :
    Calls Tryd.prog 38 #[.agg #[.string (st k), .string (st v)]] w fun e w' => e = .returned (.bool (decide (480 < k.length + v.length))) ∧ Below w.heap.size w w' := by
  have hn := Blk.new w 47 #[.string (st k), .string (st v)]
  have q1 : Below w.heap.size w (w.alloc (.cells #[.string (st k), .string (st v)] 47)) := (Below.refl _ _).alloc (Nat.le_refl _) _
  have hw1 : IntKind.i64.wrap ((k.length : Int) + (v.length : Int)) = (k.length : Int) + (v.length : Int) := IntWalk.i64_in _ (by omega)
  go_enter Tryd.func38, Tryd.ntmps38
  go_wp2_with fail
  go_ret
  refine ⟨?_, q1⟩
  have : decide ((480 : Int) < (k.length : Int) + (v.length : Int)) = decide (480 < k.length + v.length) := by rw [decide_eq_decide]; omega
  simp [← this]

set_option maxHeartbeats 1000000 in
set_option maxRecDepth 100000 in
theorem psize_at (S : Nat → Prop) (leaf : Bool) (next : Int) (nn a : Nat) (v0 : Value) (cs : List Cel) (w : World) (hm : Mid cs) (hr : Cs S w v0 cs) (hcase : (next < 0 ∧ nn = 0) ∨ next = (nn : Int)) (h64 : nn < 9223372036854775808) (ha : a ≤ 10)
    (s1 : ∀ w, Calls Tryd.prog 39 #[.int .u64 (nn : Int)] w fun e w' => e = .returned (.int .i64 (a : Int)) ∧ w = w') :
    Calls Tryd.prog 15 #[.agg #[.bool leaf, .int .i64 next, v0]] w fun e w' => e = .returned (.int .i64 ((1 + a + (varB cs.length).length + celsN cs + 4 : Nat) : Int)) ∧ Below w.heap.size w w' := by
  have HR := Lib.hid hr.lt
  obtain ⟨A, c, rfl, hlc, hcm, hA0, _⟩ := hr.at
  have hb := Blk.new w 24 #[.bool leaf, .int .i64 next, .slice A cs.length c]
  have e1 : (w.alloc (.cells #[.bool leaf, .int .i64 next, .slice A cs.length c] 24)).cell? ⟨w.heap.size, 1, none⟩ = some (.int .i64 next) := hb.cell 1
  have e2 : (w.alloc (.cells #[.bool leaf, .int .i64 next, .slice A cs.length c] 24)).cell? ⟨w.heap.size, 2, none⟩ = some (.slice A cs.length c) := hb.cell 2
  have q1 : Below w.heap.size w (w.alloc (.cells #[.bool leaf, .int .i64 next, .slice A cs.length c] 24)) := (Below.refl _ _).alloc (Nat.le_refl _) _
  have hc64 : cs.length < U64 := by have := hm.1; unfold U64; omega
  have s2 := fun (w : World) => size_any cs.length w hc64
  have s3 : Hid (∀ wg, Below (w.alloc (.cells #[.bool leaf, .int .i64 next, .slice A cs.length c] 24)).heap.size (w.alloc (.cells #[.bool leaf, .int .i64 next, .slice A cs.length c] 24)) wg → Calls Tryd.prog 40 #[.slice A cs.length c] wg fun e w' => e = .returned (.int .i64 (celsN cs : Int)) ∧ Below wg.heap.size wg w') :=
    fun wg hwg => pbytes_any _ _ cs wg hm (HR.out.up (q1.trans (hwg.mono q1.size)))
  have l2 := varB_le10 hc64
  have l3 : celsN cs ≤ 131092 * 1000000 := Nat.le_trans (celsN_bound cs hm.2) (Nat.mul_le_mul_left _ hm.1)
  have hml := hm.1
  have hw1 : IntKind.u64.wrap (nn : Int) = (nn : Int) := wrap_u64 (by omega) (by unfold U64; omega)
  have hw2 : IntKind.u64.wrap (cs.length : Int) = (cs.length : Int) := wrap_u64 (by omega) (by unfold U64; omega)
  generalize (varB cs.length).length = b at *
  generalize celsN cs = N at *
  have hw0 : IntKind.u64.wrap 0 = 0 := by decide
  have hif : (if (nn : Int) < 0 then (0 : Int) else (nn : Int)) = (nn : Int) := if_neg (by omega)
  rcases hcase with ⟨h0, rfl⟩ | rfl
  all_goals
    go_enter Tryd.func15, Tryd.ntmps15
    go_wp2_with fail
    refine wp_region_grow_lit (by kernel_rfl) (by kernel_rfl) ?_
    apply Exists.intro
    apply And.intro
    · repeat (first
        | (apply wpGrow_skip rfl
           intro K hK
           go_simp
           refine hK _ ?_
           clear hK K)
        | (apply wpGrow_is rfl
           · intro wg hwg _
             have c1' := cell_later hwg e1
             have c2' := cell_later hwg e2
             unfold grows
             go_simp
             first
               | exact grows_value _ _
               | (apply grows_same; go_at_call_of 39 (Value.int .u64 0); exact s1 _)
               | (apply grows_same; go_at_call_of 39 (Value.int .u64 (nn : Int)); exact s1 _)
               | (apply grows_same; go_at_call_of 39 (Value.int .u64 (cs.length : Int)); exact s2 _)
               | (apply grows_call; go_at_call 40; exact s3.out wg hwg)
           intro K hK
           go_simp
           refine hK _ ?_
           clear hK K))
      refine wpGrow_end (fun wg hwg _ => ?_)
      go_wp2_with fail
      go_ret
      exact ⟨by simp [IntKind.wrap, IntKind.bits, IntKind.signed]; omega, q1.trans (hwg.mono q1.size)⟩
    · apply And.intro
      · repeat (first | exact trivial | (refine ⟨Stays.is _, ?_⟩) | (refine ⟨Stays.bs _, ?_⟩) | (refine ⟨Stays.pg _ _ _, ?_⟩))
      · rfl
theorem psize_any (S : Nat → Prop) (leaf : Bool) (next : Int) (v0 : Value) (cs : List Cel) (w : World) (hn : -9223372036854775808 ≤ next ∧ next ≤ 9223372036854775807) (hm : Mid cs) (hr : Cs S w v0 cs) :
    Calls Tryd.prog 15 #[.agg #[.bool leaf, .int .i64 next, v0]] w fun e w' => e = .returned (.int .i64 (pgSz next cs : Int)) ∧ Below w.heap.size w w' :=
  psize_at S leaf next next.toNat _ v0 cs w hm hr (by omega) (by omega) (varB_le10 (by unfold U64; omega)) fun w => size_any next.toNat w (by unfold U64; omega)
end Go.Proofs.YtlidbgidbpaenaaDoor
