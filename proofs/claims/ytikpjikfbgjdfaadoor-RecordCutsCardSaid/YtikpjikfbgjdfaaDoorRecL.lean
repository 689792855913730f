/- The statements of layer 7: awake. -/
import Derived.Test.YtikpjikfbgjdfaaDoorRecT
import Derived.Test.YtikpjikfbgjdfaaDoorGrowB
import Derived.Deep.RegionLaw
namespace Go.Proofs.YtikpjikfbgjdfaaDoor
open Go Go.RowKit
set_option linter.unusedVariables false

theorem rec1_eq : recB 1 [97] = [0, 0, 0, 7, 1, 1, 97] ++ beB (sumOf [1, 1, 97]).toNat 4 := by
  have e : recF 1 [97] = [1, 1, 97] := by unfold recF; simp [varB_lo]
  have l : (recS 1 [97]).length = 7 := by rw [recS_len, e]; rfl
  unfold recB
  rw [l]
  unfold recS
  rw [e]
  rfl
theorem rec_len11 (q : Nat) (h : q < 128) : (recB q [97]).length = 11 := by
  rw [recB_len]
  unfold recF
  rw [varB_lo h]
  simp [varB_lo]
theorem awake_scan : recScan (recB 1 [97] ++ (recB 2 [97]).take 10).length (recB 1 [97] ++ (recB 2 [97]).take 10) 1 = ([(1, [97])], 11) := by
  have h1 := rec_len11 1 (by omega)
  have h2 := rec_len11 2 (by omega)
  have h := recScan_cut [[97], [97]] 1 21 21 (by intro t ht; simp at ht; subst ht; simp) (by
    simp only [allB, List.length_append]
    rw [show 1 % U64 = 1 from rfl, show (1 + 1) % U64 = 2 from rfl, h1, h2]
    simp) (Nat.le_refl _)
  have e : (allB 1 [[97], [97]]).take 21 = recB 1 [97] ++ (recB 2 [97]).take 10 := by
    simp only [allB, List.append_nil]
    rw [show 1 % U64 = 1 from rfl, show (1 + 1) % U64 = 2 from rfl, List.take_append, List.take_of_length_le (by omega), h1]
  rw [e] at h
  rw [show (recB 1 [97] ++ (recB 2 [97]).take 10).length = 21 by rw [List.length_append, List.length_take, h1, h2]; rfl, h]
  simp only [wholeB, numbered]
  rw [show 1 % U64 = 1 from rfl, show (1 + 1) % U64 = 2 from rfl, h1, h2]
  simp

theorem scan_awake (S : Nat → Prop) (v0 : Value) (w : World) (hr : Bs S w v0 (recB 1 [97] ++ (recB 2 [97]).take 10)) :
    Calls Tryd.prog 14 #[v0, .int .u64 1] w fun e w' => ∃ A k c, e = .returned (.tuple #[.slice A k c, .int .i64 11]) ∧ Ro w' w.heap.size (.slice A k c) [(1, [97])] ∧ Below w.heap.size w w' := by
  have h := rscan_any S v0 (recB 1 [97] ++ (recB 2 [97]).take 10) 1 w (by rw [List.length_append, List.length_take, rec_len11 1 (by omega), rec_len11 2 (by omega)]; simp) (by unfold U64; decide) hr
  rw [awake_scan] at h
  exact h
theorem ro_one {w : World} {B k c : Nat} {A : Option Addr} {r : Nat × List UInt8} (h : Ro w B (.slice A k c) [r]) : ∃ g, A = some ⟨g, 0, none⟩ ∧ w.cell? ⟨g, 0, none⟩ = some (.int .u64 (r.1 : Int)) ∧ w.cell? ⟨g, 1, none⟩ = some (.string (st r.2)) := by
  have h0 := h
  obtain rfl := h.len
  rcases h.2 with ⟨_, h2⟩ | ⟨g, cap, cur, hv, _⟩
  · simp at h2
  · injection hv with hA _ hc
    subst hA hc
    refine ⟨g, rfl, ?_, ?_⟩
    · rw [World.ownsRow.cellAt h0 0 (by simp)]; rfl
    · rw [World.ownsRow.cellAt h0 1 (by simp)]; rfl
theorem step_append_bs {P : Program} {w : World} {ops : Array Oper} {o : Oper} {a : Act} {K : Act → World → Prop} {Q : Exit → Act → World → Prop} {F : Prop} (w0 : World) (hd : Drawn w0 w) (hgd : o.guard = none) (s x : Operand) {t e : TypeId}
    (E : Elem P t e (.int .u8 0) 1 1) (ho : o.op = .call { callee := .builtin .append, args := #[s, x], argTypes := #[t, t] })
    {base : Nat} {v : Value} {l : List UInt8} (hown : Ob e w0 base v l)
    {S : Nat → Prop} {u : Value} {m : List UInt8} (hr : Bs S w0 u m) (hs : a.eval s = v) (hx : a.eval x = u)
    (hlen : l.length + m.length ≤ 140737488355328) (hbase : base ≤ w0.heap.size)
    (h : ∀ A k c w', Ob e w' base (.slice A k c) (l ++ m) → w0.grownBy w' v.ownBlock → K (a.put o.dst (.slice A k c)) w') :
    if Region.wanted o (yielded ops a.tmps) = true then Oper.wp P o a w K Q else F :=
  step_append_sl w0 hd hgd s x E ho hown hr hs hx (bv_one _) (by simp only [maxLen]; omega) (by omega) hbase fun A k c w' h2 h3 =>
    h A k c w' (by unfold Ob; rw [bv_append, List.length_append]; exact h2) h3

set_option maxHeartbeats 2000000 in
set_option maxRecDepth 100000 in
theorem awake7_any (w : World) (hb : BitsOk w) : Calls Tryd.prog 8 #[] w fun e w' => e = .returned (.bool true) ∧ Below w.heap.size w w' := by
  have HB := Lib.hid hb
  have h11 := rec_len11 1 (by omega)
  have h12 := rec_len11 2 (by omega)
  have H12 := Lib.hid h12
  clear hb
  go_enter Tryd.func8, Tryd.ntmps8
  go_wp2_with fail
  refine (rput_any 1 [97] w (by unfold U64; decide) HB.out (by simp)).mono ?_
  rintro e w1 ⟨hok1, _, hbl1⟩
  obtain ⟨A1, k1, c1, rfl, hown1⟩ := hok1 (by simp)
  have HB1 := Lib.hid (HB.out.later hbl1)
  have hs1 := hbl1.size
  obtain rfl := hown1.len
  rw [h11]
  have HO1 : Hid (Ob 5 w1 w.heap.size (.slice A1 11 c1) (recB 1 [97])) := by have h := hown1; rw [h11] at h; exact h
  clear hok1 hown1
  go_wp2_with fail
  refine (rput_any 2 [97] w1 (by unfold U64; decide) HB1.out (by simp)).mono ?_
  rintro e w2 ⟨hok2, _, hbl2⟩
  obtain ⟨A2, k2, c2, rfl, hown2⟩ := hok2 (by simp)
  have HB2 := Lib.hid (HB1.out.later hbl2)
  have q2 := hbl1.trans (hbl2.mono hs1)
  have HO2 := Lib.hid (HO1.out.later hbl2)
  obtain rfl := hown2.len
  rw [h12]
  have HP2 : Hid (Ob 5 w2 w1.heap.size (.slice A2 11 c2) (recB 2 [97])) := by have h := hown2; rw [h12] at h; exact h
  have hcv0 : Hid (∀ wg, Below w2.heap.size w2 wg → (convert 26 9 (.slice A1 11 c1)).run Tryd.prog wg = .ok (.string (st ([0, 0, 0, 7, 1, 1, 97] ++ beB (sumOf [1, 1, 97]).toNat 4))) wg) := fun wg hwg => by
    have h := (HO2.out.later hwg).bs
    have := run_string_of_bs (P := Tryd.prog) h tB tU tS
    rw [rec1_eq] at this
    exact this
  have hse := fun wg => refSeal_any [1, 1, 97] wg (by simp)
  have HSE := Lib.hid hse
  have hb4 : (beB (sumOf [1, 1, 97]).toNat 4).length = 4 := beB_length _ _
  generalize beB (sumOf [1, 1, 97]).toNat 4 = s4 at *
  have l1 : (⟨#[0, 0, 0, 7]⟩ : ByteArray) = st [0, 0, 0, 7] := rfl
  clear hok2 hown2 h11 h12 hse
  go_wp2_with fail
  refine wp_region_grow_lit (by kernel_rfl) (by kernel_rfl) ?_
  apply Exists.intro
  apply And.intro
  · repeat (first
      | (apply wpGrow_skip rfl
         intro K hK
         go_simp
         refine hK _ ?_
         clear hK K)
      | (apply wpGrow_is rfl
         · intro wg hwg _
           have hcv := hcv0.out wg hwg
           unfold grows
           go_simp
           first
             | exact grows_value _ _
             | (apply grows_call; go_at_call 17; exact HSE.out wg)
         intro K hK
         go_simp
         refine hK _ ?_
         clear hK K))
    refine wpGrow_end (fun wg hwg _ => ?_)
    go_wp2_with fail
    clear hcv0 HSE hb4 l1
    have HO3 := Lib.hid (HO2.out.later hwg)
    have HP3 := Lib.hid (HP2.out.later hwg)
    have q3 := q2.trans (hwg.mono q2.size)
    have hs3 := q3.size
    obtain ⟨g2, rfl, _⟩ := HP2.out.head (by rw [H12.out]; omega)
    have hc11 : 11 ≤ c2 := by
      obtain ⟨_, c', hv, h, _⟩ := HP2.out.bs.at
      injection hv with _ _ hv
      rw [H12.out] at h
      omega
    have hc10 : (10 : Int) ≤ (c2 : Int) := by omega
    have hpre : Hid (Bs (fun b => w1.heap.size ≤ b ∧ b < wg.heap.size) wg (.slice (some ⟨g2, 0, none⟩) 10 c2) ((recB 2 [97]).take 10)) := by
      have h := HP3.out.bs
      rw [show (11 : Nat) = (recB 2 [97]).length from H12.out.symm] at h
      exact Bs.pre h (by rw [H12.out]; omega)
    have H11 := Lib.hid (rec_len11 1 (by omega))
    have HT10 : Hid (((recB 2 [97]).take 10).length = 10) := by rw [Hid, List.length_take, H12.out]; rfl
    clear hbl1 hbl2 q2 hwg
    go_region_law (first
      | (refine step_append_bs (wg.alloc (.cells #[] 5)) (by first | exact ⟨0, rfl⟩ | exact ⟨1, rfl⟩ | exact ⟨2, rfl⟩ | exact ⟨3, rfl⟩) rfl (.tmp 41) (.tmp 42) elemU8 rfl (Ob.made _ _ wg.heap.size (Nat.le_refl _) rfl) (Sl.alloc1 HO3.out.bs _) rfl rfl (by rw [H11.out]; simp) (by simp) ?_; intro A3 k3 c3 w4 hown3 hg3; have hbw4 := below_grown_own ((Below.refl wg.heap.size wg).alloc (Nat.le_refl _) _) (Ob.made _ _ wg.heap.size (Nat.le_refl _) rfl) hg3 (by simp))
      | (refine step_append_bs w4 (by first | exact ⟨0, rfl⟩ | exact ⟨1, rfl⟩ | exact ⟨2, rfl⟩ | exact ⟨3, rfl⟩) rfl (.tmp 43) (.tmp 45) elemU8 rfl hown3 (Sl.below hpre.out hbw4 (fun _ h => h.2)) rfl rfl (by rw [HT10.out]; simp [H11.out]) hbw4.size ?_; intro A5 k5 c5 w5 hown5 hg5; have hbw5 := hbw4.grown hg5 hbw4.size (fun k hk => (hown3.lt k hk).1))
      | (go_simp; go_at_call 14; refine (scan_awake _ _ w5 hown5.bs).mono ?_; rintro e w6 ⟨A6, k6, c6, rfl, hro6, hbw6⟩))
    have q6 : Below w.heap.size w w6 := (q3.trans (hbw5.mono hs3)).trans (hbw6.mono (Nat.le_trans hs3 hbw5.size))
    obtain rfl := hro6.len
    obtain ⟨g6, rfl, e0, e1⟩ := ro_one hro6
    have l97 : (⟨#[97]⟩ : ByteArray) = st [97] := rfl
    have hsz := rsize_any 1 [97] w6 (by unfold U64; decide) (by simp)
    rw [show 8 + (recF 1 [97]).length = 11 by have := H11.out; rw [recB_len] at this; omega] at hsz
    have HSZ := Lib.hid hsz
    clear hsz hro6 hbw6 hbw5 hbw4 hown3 hown5 hg3 hg5 hc10 hc11 q3
    simp only [List.length_singleton]
    go_wp2_with fail
    refine HSZ.out.mono ?_
    rintro e w7 ⟨rfl, hbl7⟩
    go_wp2_with fail
    go_ret
    exact ⟨rfl, q6.trans (hbl7.mono q6.size)⟩
  · apply And.intro
    · repeat (first | exact trivial | (refine ⟨Stays.is _, ?_⟩) | (refine ⟨Stays.bs _, ?_⟩))
    · rfl
end Go.Proofs.YtikpjikfbgjdfaaDoor
