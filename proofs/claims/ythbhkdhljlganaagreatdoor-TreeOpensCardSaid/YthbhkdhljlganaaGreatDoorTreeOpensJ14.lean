/- What the proof of TreeOpens needs, part 14. -/
import Derived.Test.YthbhkdhljlganaaGreatDoorTreeOpensJ12
import Derived.Test.YthbhkdhljlganaaGreatDoorTreeOpensJ13
import Derived.Deep.Cut
import Derived.Deep.CutBlock
import Derived.Deep.DeepCutAuto
import Derived.Deep.RegionHeld3
import Derived.Deep.RegionWith

namespace Go.Proofs.YthbhkdhljlganaaGreatDoor
open Go Go.RowKit
set_option linter.unusedVariables false

theorem pg_in {Z : Pz} {P : Pgr} {w : World} (p : Pg w Z P) : ∀ i, P.has i = true → 0 ≤ i ∧ i < 90 := fun i h => by
  unfold Pgr.has at h
  simp only [Bool.or_eq_true, Bool.and_eq_true] at h
  rcases h with h | h
  · first | exact p.wr.in90 i h | exact p.wr.in90 i h.1 | exact p.tb.in90 i h.1
  · first | exact p.wr.in90 i h | exact p.tb.in90 i h.1 | exact p.wr.in90 i h.1
theorem pg_some {P : Pgr} {c : Int → List UInt8} {i : Int} {x : Pag} (h : P.pg c i = some x) : P.has i = true := by
  unfold Pgr.pg Pgr.page at h
  cases hh : P.has i with
  | true => rfl
  | false => rw [hh] at h; simp at h
theorem Tg.hpf {w : World} {g : Nat} {Z : Pz} {P : Pgr} {c : Int → List UInt8} (t : Tg w g Z P c) : ∀ i x, P.pg c i = some x → POk x ∧ 0 ≤ i ∧ i < 90 := fun i x h => ⟨pg_ok h, pg_in t.pg i (pg_some h)⟩

def chkF (F : Option ChT) (n : Nat) : Bool := match F with
  | none => false
  | some s => chained s.leaves && decide (s.seen.length = n)
theorem chkT_F (pf : PF) (n : Nat) : chkT pf n = chkF (chkLoop pf 91 [und0] ⟨[], [], 0⟩) n := rfl
theorem mp_ne {w : World} {b n : Nat} {f : Int → Option Value} {P : Program} {k : TypeId} (h : MpV P k w b f n) {B : Nat} {e : TypeId} {size m : Nat} {v : Value} {xs : List Value} (ho : w.ownsRow B e size v m xs) : v.ownBlock ≠ some b := fun e' => by
  rcases ho.2 with ⟨rfl, _⟩ | ⟨g, cap, cur, rfl, _, hh, _⟩
  · simp [Value.ownBlock] at e'
  · simp [Value.ownBlock] at e'
    subst e'
    obtain ⟨es, cl, h2⟩ := h.isMap
    rw [hh] at h2
    cases h2
/-- One more leaf. -/
theorem CkSt.leaf {w wr w' : World} {bm : Nat} {tv lv iv lv' iv' : Value} {td : List Und} {s : ChT} (h : CkSt w wr bm tv lv iv td s) {F : Nat → Prop} (hT : Turn F wr w') (hF : ∀ b, F b → lv.ownBlock = some b ∨ iv.ownBlock = some b) {i : Int} {x : Pag} {u : Value} (hu : ∃ A k c, u = .slice A k c) {d : Nat}
    {us : List Value} (h1 : us.length = s.leaves.length) (h2 : wr.ownsRow w.heap.size 36 3 lv s.leaves.length (lfC (s.leaves.zip us))) (h5 : ∀ u ∈ us, ∃ A k c, u = .slice A k c)
    (h3 : w'.ownsRow w.heap.size 36 3 lv' (s.leaves.length + 1) (lfC (s.leaves.zip us) ++ ([.bool x.1, .int .i64 (x.2.1 : Int), u] : List Value)))
    (h8 : w'.ownsRow w.heap.size 3 1 iv' (s.leaves.length + 1) (idC s.leaves ++ ([.int .i64 i] : List Value))) : CkSt w w' bm tv lv' iv' td ⟨s.leaves ++ [(i, x)], s.seen, d⟩ := by
  obtain ⟨f, h4, h6⟩ := h.seen
  have hlv := h2
  have hne : ∀ b, F b → w.heap.size ≤ b := fun b hb => by
    rcases hF b hb with e | e
    · exact (h2.lt b e).1
    · exact (h.ids.lt b e).1
  refine ⟨own_turn h.todo hT fun g hg hb => ?_, ⟨us ++ [u], by simp [h1], ?_, fun y hy => ?_⟩, ?_, ⟨f, h4.at (hT.block bm h4.lt fun hb => ?_), h6⟩, Turn.below h.below hT h.below.size hne⟩
  · rcases hF g hb with e | e
    · exact rows_ne2 h.todo h2 (by decide) g hg e
    · exact rows_ne2 h.todo h.ids (by decide) g hg e
  · rw [List.zip_append h1.symm, lfC_app, List.length_append]
    exact h3
  · rcases List.mem_append.1 hy with hy | hy
    · exact h5 y hy
    · obtain rfl := List.mem_singleton.1 hy
      exact hu
  · rw [List.length_append]
    unfold idC at h8 ⊢
    rw [List.map_append]
    exact h8
  · rcases hF bm hb with e | e
    · exact mp_ne h4 h2 e
    · exact mp_ne h4 h.ids e
theorem lfC_get {l : List (Int × Pag)} {us : List Value} {i : Nat} {yi : Int} {yl : Bool} {yn : Nat} {yc : List Cel} {u : Value} (h : i < l.length) (hu : i < us.length) (hy : l[i] = (yi, yl, yn, yc)) (hue : us[i] = u) : ∀ j v, ([.bool yl, .int .i64 (yn : Int), u] : List Value)[j]? = some v → (lfC (l.zip us))[i * 3 + j]? = some v := by
  intro j v hv
  have hz : i < (l.zip us).length := by rw [List.length_zip]; omega
  have e : l.zip us = (l.zip us).take i ++ ((l.zip us)[i] :: (l.zip us).drop (i + 1)) := by rw [← List.drop_eq_getElem_cons hz, List.take_append_drop]
  have hl : ((l.zip us).take i).length = i := by rw [List.length_take]; omega
  rw [e, lfC_app, List.getElem?_append_right (by rw [lfC_len, hl]; omega), lfC_len, hl, Nat.add_sub_cancel_left]
  have e2 : lfC ((l.zip us)[i] :: (l.zip us).drop (i + 1)) = ([.bool yl, .int .i64 (yn : Int), u] : List Value) ++ lfC ((l.zip us).drop (i + 1)) := by
    rw [List.getElem_zip, hy, hue]
    rfl
  rw [e2, List.getElem?_append_left (List.getElem?_eq_some_iff.1 hv).1]
  exact hv
theorem beq_nat (a b : Nat) : ((a : Int) == (b : Int)) = decide (a = b) := by
  by_cases h : a = b
  · subst h; simp
  · rw [decide_eq_false h, beq_eq_false_iff_ne.2 (by omega)]
/-- How many keys a map has. -/
noncomputable def mpCnt (w : World) (b : Nat) : Nat := Classical.epsilon fun n => ∃ f, MpV Tryz.prog 3 w b f n
theorem MpV.cnt {w : World} {b n : Nat} {f : Int → Option Value} (h : MpV Tryz.prog 3 w b f n) : mpCnt w b = n := by
  obtain ⟨f', h'⟩ : ∃ f, MpV Tryz.prog 3 w b f (mpCnt w b) := Classical.epsilon_spec (p := fun n => ∃ f, MpV Tryz.prog 3 w b f n) ⟨n, f, h⟩
  have h1 := h.len intTy gnTy 3
  rw [h'.len intTy gnTy 3] at h1
  injection h1 with h1
  injection h1 with _ h1
  omega
def ChkPost (b : Bool) (w : World) (e : Ending) (w' : World) : Prop := e = .returned (.bool b) ∧ Below w.heap.size w w'
set_option maxHeartbeats 8000000 in
set_option maxRecDepth 100000 in
theorem tcheck_any (g : Nat) (Z : Pz) (P : Pgr) (c : Int → List UInt8) (w : World) (ht : Tg w g Z P c) :
    Calls Tryz.prog 33 #[.pointer (some ⟨g, 0, none⟩)] w (ChkPost (chkT (P.pg c) P.pages.length) w) := by
  have HT := Lib.hid ht
  have HPF := Lib.hid ht.hpf
  have hmm := @run_makeMap Tryz.prog
  have k0 := CkOk.start (P.pg c)
  have hC := chkT_F (P.pg c) P.pages.length
  have S0 : Hid (CkSt w ((w.alloc (.cells #[.int .i64 0, .int .i64 0, .string ⟨#[]⟩, .string ⟨#[]⟩, .bool true] 147)).alloc (.map #[] 0)) (w.heap.size + 1) (.slice (some ⟨w.heap.size, 0, none⟩) 1 1) (.slice none 0 0) (.slice none 0 0) [und0] ⟨[], [], 0⟩) := by
    have hm := MpV.made Tryz.prog 3 (w.alloc (.cells #[.int .i64 0, .int .i64 0, .string ⟨#[]⟩, .string ⟨#[]⟩, .bool true] 147))
    have e : (w.alloc (.cells #[.int .i64 0, .int .i64 0, .string ⟨#[]⟩, .string ⟨#[]⟩, .bool true] 147)).heap.size = w.heap.size + 1 := by simp
    rw [e] at hm
    exact ⟨World.ownsRow.alloc (own_one w w.heap.size 147 (unC und0) rfl (Nat.le_refl _)) _, ⟨[], rfl, World.ownsRow_nil _ _ _ _, fun u h => (by cases h)⟩, World.ownsRow_nil _ _ _ _, ⟨_, hm, fun a _ => rfl⟩, ((Below.refl _ _).alloc (Nat.le_refl _) _).alloc (by simp) _⟩
  generalize chkLoop (P.pg c) 91 [und0] ⟨[], [], 0⟩ = F at *
  generalize chkT (P.pg c) P.pages.length = B at *
  have K0 := Lib.hid k0
  have HC := Lib.hid hC
  clear ht k0 hC
  go_enter Tryz.func33, Tryz.ntmps33
  go_wp2_with fail
  go_loopw [3, 4, 5, 7] (fun tv lv iv dv wr => ∃ (At Al Ai : Option Addr) (ct cl ci : Nat) (td : List Und) (s : ChT) (k : Nat), tv = .slice At td.length ct ∧ lv = .slice Al s.leaves.length cl ∧ iv = .slice Ai s.leaves.length ci ∧ dv = .int .i64 (s.depth : Int) ∧
    Hid (CkSt w wr (w.heap.size + 1) (.slice At td.length ct) (.slice Al s.leaves.length cl) (.slice Ai s.leaves.length ci) td s) ∧ Hid (CkOk (P.pg c) td s k F)) (fun tv lv iv dv wr => 91 - mpCnt wr (w.heap.size + 1))
  case atStart => exact ⟨_, none, none, 1, 0, 0, [und0], ⟨[], [], 0⟩, 91, rfl, rfl, rfl, rfl, S0, K0⟩
  case round =>
    clear S0 K0
    obtain ⟨At, Al, Ai, ct, cl, ci, td, s, k, rfl, rfl, rfl, rfl, S, K⟩ := hrel
    cases td with
    | nil =>
      have hF := K.out.done
      subst hF
      have hs9 := seen_le K.out.nod K.out.pgs
      have hl9 := K.out.lvn
      have HLV := Lib.hid K.out.lvs
      rw [List.length_nil] at S ⊢
      have R1 : Hid (∀ j, j < 0 → nextOk s.leaves j) := fun j hj => absurd hj (Nat.not_lt_zero _)
      go_wp2_with fail
      go_loopw [136] (fun iv wr => ∃ i : Nat, iv = .int .i64 (i : Int) ∧ i ≤ s.leaves.length ∧ Hid (∀ j, j < i → nextOk s.leaves j) ∧ Hid (CkSt w wr (w.heap.size + 1) (.slice At 0 ct) (.slice Al s.leaves.length cl) (.slice Ai s.leaves.length ci) [] s)) (fun iv _ => s.leaves.length - (intOf iv).toNat)
      case atStart => exact ⟨0, rfl, Nat.zero_le _, R1, S⟩
      case round =>
        clear R1 S
        obtain ⟨i, rfl, hi, R1, S⟩ := hrel
        by_cases hlt : i < s.leaves.length
        · obtain ⟨us, hus1, hus2, hus3⟩ := S.out.lv
          obtain ⟨gl, rfl⟩ : ∃ gl, Al = some ⟨gl, 0, none⟩ := by
            rcases hus2.2 with ⟨_, h0⟩ | ⟨gl, _, _, hv, _⟩
            · omega
            · injection hv with h1; exact ⟨gl, h1⟩
          obtain ⟨y, hy⟩ : ∃ y, s.leaves[i] = y := ⟨_, rfl⟩
          obtain ⟨yi, yl, yn, yc⟩ := y
          have hui : i < us.length := by omega
          obtain ⟨u, hu⟩ : ∃ u, us[i] = u := ⟨_, rfl⟩
          have hget : ∀ j v, ([.bool yl, .int .i64 (yn : Int), u] : List Value)[j]? = some v → (lfC (s.leaves.zip us))[i * 3 + j]? = some v := lfC_get hlt hui hy hu
          have p0 : wr.cell? ⟨gl, i * 3, none⟩ = some (.bool yl) := own_cell hus2 (hget 0 _ rfl)
          have p1 : wr.cell? ⟨gl, i * 3 + 1, none⟩ = some (.int .i64 (yn : Int)) := own_cell hus2 (hget 1 _ rfl)
          have p2 : wr.cell? ⟨gl, i * 3 + 2, none⟩ = some u := own_cell hus2 (hget 2 _ rfl)
          obtain ⟨uA, uk, uc, rfl⟩ := hus3 u (hu ▸ List.getElem_mem hui)
          have hi0 : (0 : Int) ≤ (i : Int) := by omega
          have hi1 : (i : Int) < (s.leaves.length : Int) := by omega
          clear hget hus1 hus2 hus3 hu hui
          have HY := Lib.hid hy
          clear hy
          go_upto_region 27 with (fail)
          have q1 := (Below.refl wr.heap.size wr).alloc (Nat.le_refl _) (.cells #[.bool yl, .int .i64 (yn : Int), .slice uA uk uc] 36)
          have S1 := Lib.hid (S.out.later q1)
          have B1 := Lib.hid (Blk.new wr 36 #[.bool yl, .int .i64 (yn : Int), .slice uA uk uc])
          have hids := S1.out.ids
          obtain ⟨gi, rfl, hci, hcm⟩ : ∃ gi, Ai = some ⟨gi, 0, none⟩ ∧ s.leaves.length ≤ ci ∧ ci ≤ maxLen := by
            rcases hids.2 with ⟨_, h0⟩ | ⟨gi, cap, cur, hv, _, _, h5, h6, _⟩
            · omega
            · injection hv with h1 _ h3
              exact ⟨gi, h1, h3 ▸ h5, h3 ▸ h6⟩
          have HI := Lib.hid hids
          have hN1 : 1 ≤ s.leaves.length := by omega
          have hidc : (idC s.leaves).length = s.leaves.length := by unfold idC; simp
          obtain ⟨ii, hii, hz, hsz, hby⟩ := elemIntT.info
          have HII := Lib.hid hii
          have HZ := Lib.hid hz
          have HSZ := Lib.hid hsz
          have HBY := Lib.hid hby
          have hdl : ((idC s.leaves).drop 1).length = s.leaves.length - 1 := by rw [List.length_drop, hidc]
          have HDL := Lib.hid hdl
          have HIDC := Lib.hid hidc
          have HCM : Hid (s.leaves.length ≤ 90) := by show s.leaves.length ≤ 90; omega
          have HQ1 := Lib.hid (Nat.le_trans S1.out.below.size (Nat.le_refl _))
          unfold maxLen at hcm
          clear p0 p1 p2 q1 hids hii hz hsz hby hdl hidc
          generalize wr.alloc (.cells #[.bool yl, .int .i64 (yn : Int), .slice uA uk uc] 36) = W1 at *
          obtain ⟨nx, hnx⟩ : ∃ nx, (((s.leaves.map (·.1)).drop 1 ++ [0])[i]?).getD 0 = nx := ⟨_, rfl⟩
          have HNXT : Hid (((idC s.leaves).drop 1 ++ ([.int .i64 0] : List Value))[i]? = some (.int .i64 nx)) := by
            rw [Hid, ← hnx]
            exact idn_get hlt
          have HNN : Hid (s.leaves.length - 1 + 1 = s.leaves.length) := by show s.leaves.length - 1 + 1 = s.leaves.length; omega
          have HOK : Hid (nextOk s.leaves i ↔ (yn : Int) = nx) := by
            rw [Hid, ← hnx]
            unfold nextOk
            rw [List.getElem?_eq_getElem hlt, HY.out]
            constructor
            · exact fun h => h _ rfl
            · intro h x hx
              obtain rfl := Option.some.inj hx
              exact h
          clear hnx
          have HWR := Lib.hid S.out.below.size
          by_cases hq : (yn : Int) = nx
          · have hq1 : ((yn : Int) == nx) = true := by rw [beq_iff_eq]; exact hq
            have hok := HOK.out.2 hq
            have R2 : Hid (∀ j, j < i + 1 → nextOk s.leaves j) := fun j hj => by
              rcases Nat.lt_or_ge j i with h | h
              · exact R1.out j h
              · obtain rfl : j = i := by omega
                exact hok
            clear hq hok
            go_wp2_with (first | (refine wpList_slice_tail _ rfl (.tmp 141) (.const (.int .i64 1)) (.tmp 143) (.tmp 145) elemIntT rfl rfl rfl rfl rfl hN1 hci HIDC.out (fun j u hj => own_cell HI.out hj) ?_; intro ab hab) | (at_builtin; refine wpList_append_grows _ rfl (.tmp 146) (.tmp 147) 42 rfl 3 ii _ 1 8 elemIntT.under HII.out HZ.out HSZ.out HBY.out elemIntT.cells (by omega) (some ab) (s.leaves.length - 1) (s.leaves.length - 1) ((idC s.leaves).drop 1) rfl (fun h => by cases h) (by rw [HDL.out]; omega) (old_cells hab) ⟨W1.heap.size, 0, none⟩ 1 1 [.int .i64 0] rfl rfl (new1_cell _ _ _) (by intro y hy; simp at hy; subst hy; rfl) (by omega) (by have := HCM.out; simp only [maxLen]; omega) (by have := HCM.out; omega) ?_; intro v9 w9 hown9 hg9; rw [HNN.out] at hown9; obtain ⟨g9, c9, rfl, hcell9⟩ := own_at hown9 hN1; have hcell9i := hcell9 i _ HNXT.out; have p91 : w9.cell? ⟨wr.heap.size, 1, none⟩ = some (.int .i64 (yn : Int)) := ((B1.out.alloc _).grown hg9 (by simp)).cell 1; clear hcell9))
            have S9 := Lib.hid ((S1.out.later ((Below.refl _ _).alloc (Nat.le_refl _) _)).later (below_of_grown hg9))
            clear hown9 hg9
            go_roundw
            case rel => exact ⟨i + 1, by go_num, by omega, R2, S9⟩
            case measure => simp [intOf]; omega
          · have hq1 : ((yn : Int) == nx) = false := beq_eq_false_iff_ne.2 hq
            have hch : chained s.leaves = false := by
              cases hc : chained s.leaves with
              | false => rfl
              | true => exact absurd (HOK.out.1 ((chained_iff _).1 hc i hlt)) hq
            have HCH := Lib.hid hch
            clear hq hch
            go_wp2_with (first | (refine wpList_slice_tail _ rfl (.tmp 141) (.const (.int .i64 1)) (.tmp 143) (.tmp 145) elemIntT rfl rfl rfl rfl rfl hN1 hci HIDC.out (fun j u hj => own_cell HI.out hj) ?_; intro ab hab) | (at_builtin; refine wpList_append_grows _ rfl (.tmp 146) (.tmp 147) 42 rfl 3 ii _ 1 8 elemIntT.under HII.out HZ.out HSZ.out HBY.out elemIntT.cells (by omega) (some ab) (s.leaves.length - 1) (s.leaves.length - 1) ((idC s.leaves).drop 1) rfl (fun h => by cases h) (by rw [HDL.out]; omega) (old_cells hab) ⟨W1.heap.size, 0, none⟩ 1 1 [.int .i64 0] rfl rfl (new1_cell _ _ _) (by intro y hy; simp at hy; subst hy; rfl) (by omega) (by have := HCM.out; simp only [maxLen]; omega) (by have := HCM.out; omega) ?_; intro v9 w9 hown9 hg9; rw [HNN.out] at hown9; obtain ⟨g9, c9, rfl, hcell9⟩ := own_at hown9 hN1; have hcell9i := hcell9 i _ HNXT.out; have p91 : w9.cell? ⟨wr.heap.size, 1, none⟩ = some (.int .i64 (yn : Int)) := ((B1.out.alloc _).grown hg9 (by simp)).cell 1; clear hcell9))
            have S9 := Lib.hid ((S1.out.later ((Below.refl _ _).alloc (Nat.le_refl _) _)).later (below_of_grown hg9))
            clear hown9 hg9
            go_ret
            refine ⟨?_, S9.out.below⟩
            have e1 : chkF (some s) P.pages.length = false := by
              unfold chkF
              simp only [HCH.out, Bool.false_and]
            rw [HC.out, e1]
            rfl
        · obtain rfl : i = s.leaves.length := by omega
          have hch : chained s.leaves = true := (chained_iff _).2 R1.out
          have HB : Hid (B = decide (s.seen.length = P.pages.length)) := by
            rw [Hid, HC.out]
            unfold chkF
            simp only
            rw [hch]
            rfl
          have hlen9 : ∀ W ty, Below wr.heap.size wr W → (Builtin.len_ #[89] ty #[.map (some (w.heap.size + 1))]).run Tryz.prog W = .ok (.int .i64 (s.seen.length : Int)) W := fun W ty hb => by
            obtain ⟨f0, hf0, _⟩ := (S.out.later hb).seen
            exact hf0.len intTy gnTy ty
          have HT9 := Lib.hid (HT.out.later S.out.below)
          have hgz : wr.cell? ⟨g, 0, none⟩ = some (.pointer (some ⟨Z.g, 0, none⟩)) := HT9.out.blk.cell 0
          have hpl : P.pages.length ≤ 90 := by unfold Pgr.pages; exact Nat.le_trans (List.length_filter_le _ _) (by simp)
          clear hch R1
          go_wp2_with fail
          refine wp_region_grow_lit (by kernel_rfl) (by kernel_rfl) ?_
          apply Exists.intro
          apply And.intro
          · repeat (first
              | (apply wpGrow_skip rfl
                 intro K hK
                 go_simp
                 refine hK _ ?_
                 clear hK K)
              | (apply wpGrow_is rfl
                 · intro wg hwg _
                   have z0 := cell_later hwg hgz
                   have ln := fun ty => hlen9 wg ty hwg
                   unfold grows
                   go_simp
                   first
                     | exact grows_value _ _
                     | (fail)
                 intro K hK
                 go_simp
                 refine hK _ ?_
                 clear hK K))
            apply wpGrow_rel (V := (fun v w => ∃ A c, v = .slice A P.pages.length c)) rfl
            · intro wg hwg hf
              have ln := fun ty => hlen9 wg ty hwg
              unfold grows
              go_simp
              exact ⟨Below.refl _ _, (ppages_any Z P wg (HT9.out.later hwg).pg).mono (fun e w' ⟨v, he, ho, hb⟩ => by obtain ⟨A, k, c, rfl⟩ := own_slice ho; obtain rfl := own_len ho; exact ⟨_, he, hb, A, c, by rw [show (il P.pages).length = P.pages.length from by simp [il]]⟩)⟩
            intro xv hxv K hK
            obtain ⟨wx, _, hbx⟩ := hxv
            have hbo := hbx
            obtain ⟨A7, c7, rfl⟩ := hbo
            go_simp
            refine hK _ ?_
            clear hK K hbx
            repeat (first
              | (apply wpGrow_skip rfl
                 intro K hK
                 go_simp
                 refine hK _ ?_
                 clear hK K)
              | (apply wpGrow_is rfl
                 · intro wg hwg _
                   have z0 := cell_later hwg hgz
                   have ln := fun ty => hlen9 wg ty hwg
                   unfold grows
                   go_simp
                   first
                     | exact grows_value _ _
                     | (fail)
                 intro K hK
                 go_simp
                 refine hK _ ?_
                 clear hK K))
            refine wpGrow_end (fun wg hwg _ => ?_)
            go_wp2_with fail
            go_ret
            refine ⟨?_, S.out.below.trans (hwg.mono S.out.below.size)⟩
            have e1 : ((s.seen.length : Int) == (P.pages.length : Int)) = decide (s.seen.length = P.pages.length) := beq_nat _ _
            rw [HB.out, ← e1]
            rfl
          · apply And.intro
            · repeat (first | exact trivial | (refine ⟨Stays.is _, ?_⟩) | (refine ⟨fun _ _ _ _ h => h, ?_⟩))
            · rfl
    | cons u td =>
      have hlen := K.out.len
      have hs9 := seen_le K.out.nod K.out.pgs
      simp only [List.length_cons] at hlen
      have hund := K.out.und u (List.mem_cons_self ..)
      have hto := S.out.todo
      rw [List.reverse_cons, unsC_app, unsC_one, List.length_cons] at hto
      obtain ⟨hpop, gt, rfl, hgt0, hgt1, hct, hcm, hcel⟩ := own_pop hto (by rw [unsC_len, List.length_reverse]) rfl
      obtain ⟨ui, ud, uf, ut, uo⟩ := u
      have e0 := hcel 0 _ rfl
      have e1 := hcel 1 _ rfl
      have e2 := hcel 2 _ rfl
      have e3 := hcel 3 _ rfl
      have e4 := hcel 4 _ rfl
      clear hcel hto
      simp only [Nat.add_zero] at e0
      have hn1 : td.length ≤ 200000 := by omega
      have hn2 : IntKind.i64.wrap (td.length : Int) = (td.length : Int) := i64_inp (by omega) (by omega)
      obtain ⟨k', rfl, hF⟩ := K.out.step
      have q1 := (Below.refl wr.heap.size wr).alloc (Nat.le_refl _) (.cells #[.int .i64 ui, .int .i64 (ud : Int), .string (st uf), .string (st ut), .bool uo] 147)
      have S1 := Lib.hid ((S.out.cut hpop).later q1)
      have HT1 := Lib.hid (HT.out.later (S.out.below.trans (q1.mono S.out.below.size)))
      have b1 := Blk.new wr 147 #[.int .i64 ui, .int .i64 (ud : Int), .string (st uf), .string (st ut), .bool uo]
      have HB1 := Lib.hid b1
      have hb10 : (wr.alloc (.cells #[.int .i64 ui, .int .i64 (ud : Int), .string (st uf), .string (st ut), .bool uo] 147)).cell? ⟨wr.heap.size, 0, none⟩ = some (.int .i64 ui) := b1.cell 0
      have hF1 := Lib.hid hF
      have hU := Lib.hid hund
      have K1 := Lib.hid K.out
      have hsb : w.heap.size ≤ wr.heap.size := S.out.below.size
      have HCNT : Hid (mpCnt wr (w.heap.size + 1) = s.seen.length) := by
        obtain ⟨f0, hf0, _⟩ := S.out.seen
        exact hf0.cnt
      have HLB : Hid (∀ b, (Value.slice Al s.leaves.length cl).ownBlock = some b → b < wr.heap.size) := fun b hb => by
        obtain ⟨us, _, h, _⟩ := S.out.lv
        exact (h.lt b hb).2
      clear hF hund q1 b1 S K hpop
      go_wp2_with fail
      generalize hW1 : wr.alloc (.cells #[.int .i64 ui, .int .i64 (ud : Int), .string (st uf), .string (st ut), .bool uo] 147) = W1 at *
      clear hW1 e0 e1 e2 e3 e4
      generalize wr.heap.size = gu at *
      refine (tread_any g Z P c ui W1 HT1.out hU.out.1).mono ?_
      rintro e w2 ⟨v, rfl, ⟨A2, c2, rfl, hcs⟩, hb2⟩
      have hz2 := hb2.size
      have hz1 : gu < W1.heap.size := HB1.out.lt
      clear hb10
      obtain ⟨leaf, nx, cs, hpd⟩ : ∃ leaf nx cs, P.pgD c ui = (leaf, nx, cs) := ⟨_, _, _, rfl⟩
      have HPD := Lib.hid hpd
      rw [hpd] at hcs ⊢
      simp only at hcs ⊢
      clear hpd
      have q3 := (Below.refl w2.heap.size w2).alloc (Nat.le_refl _) (.cells #[.bool leaf, .int .i64 (nx : Int), .slice A2 cs.length c2] 36)
      have S3 := Lib.hid ((S1.out.later hb2).later q3)
      have B3u := Lib.hid ((HB1.out.later hb2).later q3)
      have B3p := Lib.hid (Blk.new w2 36 #[.bool leaf, .int .i64 (nx : Int), .slice A2 cs.length c2])
      have C3 : Hid (Cs (fun b => W1.heap.size ≤ b ∧ b < w2.heap.size) (w2.alloc (.cells #[.bool leaf, .int .i64 (nx : Int), .slice A2 cs.length c2] 36)) (.slice A2 cs.length c2) cs) := Sl.alloc hcs (fun b h => h.2) _
      clear hcs hb2 q3 S1 HB1
      have pu0 : ((w2.alloc (.cells #[.bool leaf, .int .i64 (nx : Int), .slice A2 cs.length c2] 36))).cell? ⟨gu, 0, none⟩ = some (.int .i64 ui) := B3u.out.cell 0
      have pu1 : ((w2.alloc (.cells #[.bool leaf, .int .i64 (nx : Int), .slice A2 cs.length c2] 36))).cell? ⟨gu, 1, none⟩ = some (.int .i64 (ud : Int)) := B3u.out.cell 1
      obtain ⟨f, hm, hf⟩ := S3.out.seen
      have l1 := hm.look intTy gnTy (zeroIn _) hU.out.1
      rw [hf _ hU.out.1] at l1
      generalize (f ui).getD (.int .i64 0) = fv at l1
      obtain ⟨w4, r4, h4, t4⟩ := hm.put intTy gnTy (by simp only [maxLen]; omega) hU.out.1 (.int .i64 (ud : Int))
      have hkm : kindAt (w2.alloc (.cells #[.bool leaf, .int .i64 (nx : Int), .slice A2 cs.length c2] 36)) (w.heap.size + 1) = some none := by
        obtain ⟨es, cl, he⟩ := hm.isMap
        unfold kindAt
        rw [he]
      have T4 := Lib.hid t4
      have HM4 := Lib.hid h4
      have HFF := Lib.hid hf
      have HKM := Lib.hid hkm
      have B4u := Lib.hid (B3u.out.map hkm t4)
      have B4p := Lib.hid (B3p.out.map hkm t4)
      have hbw : Hid (Below w.heap.size w w4) := S3.out.below.grown t4.grown S3.out.below.size (fun k hk => by injection hk with hk; omega)
      clear hm hf h4 t4 hkm
      cases hpg : P.pg c ui with
      | none =>
        have hf0 := hF1.out
        rw [hpg] at hf0
        subst hf0
        clear hpg
        go_wp2_with fail
        go_ret
        exact ⟨by rw [HC.out]; rfl, hbw.out⟩
      | some x =>
        have hx : x = (leaf, nx, cs) := by
          rw [← HPD.out]
          unfold Pgr.pgD
          rw [hpg]
          rfl
        subst hx
        have hpk := Lib.hid (HPF.out ui _ hpg)
        have hf0 := hF1.out
        rw [hpg] at hf0
        simp only at hf0
        have HF2 := Lib.hid hf0
        clear hpg hF1 hf0
        cases hse : s.seen.contains ui with
        | true =>
          have hf1 := HF2.out
          rw [hse] at hf1
          simp only [Bool.true_or, if_true] at hf1
          have HF3 := Lib.hid hf1
          rw [hse] at l1
          clear hf1 HF2 hse
          go_wp2_with fail
          go_ret
          exact ⟨by rw [HC.out, HF3.out]; rfl, hbw.out⟩
        | false =>
          have HSE := Lib.hid hse
          rw [hse] at l1
          clear hse
          have hsn : nPut f s.seen.length ui = s.seen.length + 1 := by unfold nPut; rw [HFF.out _ hU.out.1, HSE.out]; simp
          have hm4 := HM4.out
          rw [hsn] at hm4
          have S4 := Lib.hid (S3.out.mark (a := ui) hm4 T4.out HKM.out (by omega) rfl (fun x hx => by
            simp only [List.contains_cons]
            by_cases h : x = ui
            · simp [h]
            · rw [if_neg h, HFF.out x hx]; simp [h]))
          have C4 : Hid (Cs (fun b => W1.heap.size ≤ b ∧ b < w2.heap.size) w4 (.slice A2 cs.length c2) cs) := Sl.keep C3.out fun b o hb => World.cell?_of_block (T4.out.grown.block b (by have := B3p.out.lt; omega) (fun e => by injection e with e; have := hb.1; omega))
          have qu0 : (w4).cell? ⟨gu, 0, none⟩ = some (.int .i64 ui) := B4u.out.cell 0
          have qu1 : (w4).cell? ⟨gu, 1, none⟩ = some (.int .i64 (ud : Int)) := B4u.out.cell 1
          have qu2 : (w4).cell? ⟨gu, 2, none⟩ = some (.string (st uf)) := B4u.out.cell 2
          have qu3 : (w4).cell? ⟨gu, 3, none⟩ = some (.string (st ut)) := B4u.out.cell 3
          have qu4 : (w4).cell? ⟨gu, 4, none⟩ = some (.bool uo) := B4u.out.cell 4
          have qp0 : (w4).cell? ⟨w2.heap.size, 0, none⟩ = some (.bool leaf) := B4p.out.cell 0
          have qp1 : (w4).cell? ⟨w2.heap.size, 1, none⟩ = some (.int .i64 (nx : Int)) := B4p.out.cell 1
          have qp2 : (w4).cell? ⟨w2.heap.size, 2, none⟩ = some (.slice A2 cs.length c2) := B4p.out.cell 2
          have hcl := cells_len hpk.out.1
          simp only at hcl
          clear hm4 hsn C3 B3u B3p HFF T4 HM4 HKM S3
          go_wp2_with fail
          refine (tfits_any _ ⟨ui, ud, uf, ut, uo⟩ leaf nx _ cs w4 hU.out.1 (by have h : ud ≤ s.seen.length := hU.out.2; show ud ≤ 1000000; omega) (by omega) (by omega) (fun x hx => by have := chk_small none _ hpk.out.1.parts.2.1 x hx; omega) C4.out).mono ?_
          rintro e w5 ⟨rfl, hb5⟩
          have S5 := Lib.hid (S4.out.later hb5)
          have B5u := Lib.hid (B4u.out.later hb5)
          have B5p := Lib.hid (B4p.out.later hb5)
          have C5 : Hid (Cs (fun b => W1.heap.size ≤ b ∧ b < w2.heap.size) w5 (.slice A2 cs.length c2) cs) := Sl.below C4.out hb5 fun b h => by have := B4p.out.lt; omega
          clear hb5 S4 B4u B4p C4 qu0 qu1 qu2 qu3 qu4 qp0 qp1 qp2 pu0 pu1 hbw l1 r4
          cases hft : fitsT ⟨ui, ud, uf, ut, uo⟩ (leaf, nx, cs) with
          | false =>
            have hf1 := HF2.out
            rw [hft] at hf1
            simp only [Bool.not_false, Bool.or_true, if_true] at hf1
            have HF3 := Lib.hid hf1
            clear hf1 HF2 hft
            go_wp2_with fail
            go_ret
            exact ⟨by rw [HC.out, HF3.out]; rfl, S5.out.below⟩
          | true =>
            have hf1 := HF2.out
            rw [hft, HSE.out] at hf1
            simp only [Bool.not_true, Bool.or_false, Bool.false_eq_true, if_false] at hf1
            clear HF2 hft
            have qu0 : (w5).cell? ⟨gu, 0, none⟩ = some (.int .i64 ui) := B5u.out.cell 0
            have qu1 : (w5).cell? ⟨gu, 1, none⟩ = some (.int .i64 (ud : Int)) := B5u.out.cell 1
            have qu2 : (w5).cell? ⟨gu, 2, none⟩ = some (.string (st uf)) := B5u.out.cell 2
            have qu3 : (w5).cell? ⟨gu, 3, none⟩ = some (.string (st ut)) := B5u.out.cell 3
            have qu4 : (w5).cell? ⟨gu, 4, none⟩ = some (.bool uo) := B5u.out.cell 4
            have qp0 : (w5).cell? ⟨w2.heap.size, 0, none⟩ = some (.bool leaf) := B5p.out.cell 0
            have qp1 : (w5).cell? ⟨w2.heap.size, 1, none⟩ = some (.int .i64 (nx : Int)) := B5p.out.cell 1
            have qp2 : (w5).cell? ⟨w2.heap.size, 2, none⟩ = some (.slice A2 cs.length c2) := B5p.out.cell 2
            cases leaf with
            | true =>
              simp only [if_true] at hf1
              have HF3 := Lib.hid hf1
              clear hf1
              by_cases hb : s.leaves ≠ [] ∧ s.depth ≠ ud
              · have hf2 := HF3.out
                rw [if_pos hb] at hf2
                have HF4 := Lib.hid hf2
                have hl0 : 0 < s.leaves.length := List.length_pos_iff.2 hb.1
                have hd0 : ((s.depth : Int) == (ud : Int)) = false := beq_eq_false_iff_ne.2 (by have := hb.2; omega)
                clear hf2 HF3 hb
                go_wp2_with fail
                go_ret
                exact ⟨by rw [HC.out, HF4.out]; rfl, S5.out.below⟩
              · have hf2 := HF3.out
                rw [if_neg hb] at hf2
                have K5 := Lib.hid (K1.out.leaf (x := (true, nx, cs)) ⟨hpk.out.2.1, hpk.out.2.2, hpk.out.1⟩ HSE.out hf2)
                have hll := K1.out.lvn
                obtain ⟨us, hus1, hus2, hus3⟩ := S5.out.lv
                have L5 := Lib.hid hus2
                have HUS1 := Lib.hid hus1
                have HUS3 := Lib.hid hus3
                have I5 := Lib.hid S5.out.ids
                have hlt5 : w.heap.size ≤ w5.heap.size := S5.out.below.size
                have hnl : ∀ b, (Value.slice Al s.leaves.length cl).ownBlock = some b → b ≠ gu ∧ b ≠ w2.heap.size ∧ b < w5.heap.size := fun b hb => ⟨by have := HLB.out b hb; omega, by have := HLB.out b hb; omega, (hus2.lt b hb).2⟩
                have hni : ∀ b, (Value.slice Ai s.leaves.length ci).ownBlock = some b → b ≠ gu ∧ b ≠ w2.heap.size ∧ b < w5.heap.size := fun b hb => ⟨fun e => own_ne S5.out.ids B5u.out (by decide) (e ▸ hb), fun e => own_ne S5.out.ids B5p.out (by decide) (e ▸ hb), (S5.out.ids.lt b hb).2⟩
                have hli : ∀ b, (Value.slice Al s.leaves.length cl).ownBlock = some b → (Value.slice Ai s.leaves.length ci).ownBlock ≠ some b := rows_ne2 hus2 S5.out.ids (by decide)
                have HNL := Lib.hid hnl
                have HNI := Lib.hid hni
                have HLI := Lib.hid hli
                generalize hFL : (fun b => (Value.slice Al s.leaves.length cl).ownBlock = some b) = FL at *
                generalize hFI : (fun b => (Value.slice Ai s.leaves.length ci).ownBlock = some b) = FI at *
                have HFL := Lib.hid hFL
                have HFI := Lib.hid hFI
                have hEu : ¬ trE [TrP.of 3 FL, TrP.of 8 FI] gu := fun h => by
                  rw [trE2] at h
                  subst hFL hFI
                  rcases h with h | h
                  · exact (HNL.out _ h).1 rfl
                  · exact (HNI.out _ h).1 rfl
                have hEp : ¬ trE [TrP.of 3 FL, TrP.of 8 FI] w2.heap.size := fun h => by
                  rw [trE2] at h
                  subst hFL hFI
                  rcases h with h | h
                  · exact (HNL.out _ h).2.1 rfl
                  · exact (HNI.out _ h).2.1 rfl
                have hl1 : s.leaves.length ≤ 90 := by omega
                have hfl : ∀ g, FL g → g < w5.heap.size := fun g h => by subst hFL; exact (HNL.out _ h).2.2
                have hfi : ∀ g, FI g → g < w5.heap.size := fun g h => by subst hFI; exact (HNI.out _ h).2.2
                have HFL2 : Hid (∀ g, FL g → (Value.slice Al s.leaves.length cl).ownBlock = some g) := fun g h => by subst hFL; exact h
                have HFI2 : Hid (∀ g, FI g → (Value.slice Ai s.leaves.length ci).ownBlock = some g) := fun g h => by subst hFI; exact h
                have HfL := Lib.hid hfl
                have HfI := Lib.hid hfi
                clear hf2 HF3 hus1 hus2 hus3 hnl hni hli hFL hFI hfl hfi
                by_cases hl0 : 0 < s.leaves.length
                · have hd0 : ((s.depth : Int) == (ud : Int)) = true := by
                    rw [beq_iff_eq]
                    have : ¬ s.depth ≠ ud := fun h => hb ⟨List.length_pos_iff.1 hl0, h⟩
                    omega
                  clear hb
                  go_wp2_with fail
                  refine wp_region_tr [TrP.of 3 FL, TrP.of 8 FI] (by kernel_rfl) (by kernel_rfl) ?_
                  apply Exists.intro
                  apply And.intro
                  · repeat (first
                      | (apply wpTr_skip rfl
                         intro K hK
                         go_simp
                         refine hK _ ?_
                         clear hK K)
                      | (apply wpTr_is rfl (by kernel_rfl)
                         · intro wg hwg _
                           have v0 := Turn.cell hwg qu0 hEu
                           have v1 := Turn.cell hwg qu1 hEu
                           have p0 := Turn.cell hwg qp0 hEp
                           have p1 := Turn.cell hwg qp1 hEp
                           have p2 := Turn.cell hwg qp2 hEp
                           unfold grows
                           go_simp
                           first
                             | exact grows_value _ _
                             | (fail)
                         intro K hK
                         go_simp
                         refine hK _ ?_
                         clear hK K))
                    apply wpTr_rel (V := VSl w5.heap.size 3 1 [.bool true, .int .i64 (nx : Int), .slice A2 cs.length c2]) rfl (by kernel_rfl)
                    · intro wg hwg hf
                      have v0 := Turn.cell hwg qu0 hEu
                      have v1 := Turn.cell hwg qu1 hEu
                      have p0 := Turn.cell hwg qp0 hEp
                      have p1 := Turn.cell hwg qp1 hEp
                      have p2 := Turn.cell hwg qp2 hEp
                      unfold grows
                      go_simp
                      exact ⟨(Below.refl _ _).alloc (Nat.le_refl _) _, ⟨_, _, _, rfl⟩, (Sl.newb (S := fun b => b = wg.heap.size) wg 36 [.bool true, .int .i64 (nx : Int), .slice A2 cs.length c2] rfl rfl).more fun b h => ⟨by subst h; exact hwg.size, by subst h; simp⟩⟩
                    intro xv hxv K hK
                    obtain ⟨wx, hwx, hbx⟩ := hxv
                    have hbo := hbx
                    obtain ⟨⟨A78, k78, c78, rfl⟩, _⟩ := hbo
                    go_simp
                    refine hK _ ?_
                    clear hK K hbx hwx
                    apply wpTr_turn (V := VRow w.heap.size 36 3 (s.leaves.length + 1) (lfC (s.leaves.zip us) ++ ([.bool true, .int .i64 (nx : Int), .slice A2 cs.length c2] : List Value)) (Value.slice Al s.leaves.length cl).ownBlock w5.heap.size) (TrP.of 3 FL)
                    exact rfl
                    kernel_rfl
                    · intro wg hwg hf
                      have hsl : VSl w5.heap.size 3 1 [.bool true, .int .i64 (nx : Int), .slice A2 cs.length c2] (.slice A78 k78 c78) wg := hf ⟨2, .data⟩ (by simp) rfl _ _ rfl
                      have hownz := own_turn L5.out hwg (fun g hg hx => HLI.out g hg (HFI2.out g (trX2a hx rfl)))
                      show steps _ _ _ wg (Turn FL) _
                      rw [← HFL.out]
                      exact steps_append (s := .tmp 76) (x := .tmp 78) elemPg rfl hownz hsl.2 rfl rfl (by intro y hy; simp at hy; rcases hy with rfl | rfl | rfl <;> rfl) (by simp only [maxLen]; omega) (by omega) (Nat.le_trans hlt5 hwg.size) hwg.size
                    intro xv hxv K hK
                    obtain ⟨wx, hwx, hbx⟩ := hxv
                    have hbo := hbx
                    obtain ⟨⟨A79, c79, rfl⟩, _⟩ := hbo
                    go_simp
                    refine hK _ ?_
                    clear hK K hbx hwx
                    repeat (first
                      | (apply wpTr_skip rfl
                         intro K hK
                         go_simp
                         refine hK _ ?_
                         clear hK K)
                      | (apply wpTr_is rfl (by kernel_rfl)
                         · intro wg hwg _
                           have v0 := Turn.cell hwg qu0 hEu
                           have v1 := Turn.cell hwg qu1 hEu
                           have p0 := Turn.cell hwg qp0 hEp
                           have p1 := Turn.cell hwg qp1 hEp
                           have p2 := Turn.cell hwg qp2 hEp
                           unfold grows
                           go_simp
                           first
                             | exact grows_value _ _
                             | (fail)
                         intro K hK
                         go_simp
                         refine hK _ ?_
                         clear hK K))
                    apply wpTr_rel (V := VSl w5.heap.size 1 1 [.int .i64 ui]) rfl (by kernel_rfl)
                    · intro wg hwg hf
                      have v0 := Turn.cell hwg qu0 hEu
                      have v1 := Turn.cell hwg qu1 hEu
                      have p0 := Turn.cell hwg qp0 hEp
                      have p1 := Turn.cell hwg qp1 hEp
                      have p2 := Turn.cell hwg qp2 hEp
                      unfold grows
                      go_simp
                      exact ⟨(Below.refl _ _).alloc (Nat.le_refl _) _, ⟨_, _, _, rfl⟩, (Sl.newb (S := fun b => b = wg.heap.size) wg 3 [.int .i64 ui] rfl rfl).more fun b h => ⟨by subst h; exact hwg.size, by subst h; simp⟩⟩
                    intro xv hxv K hK
                    obtain ⟨wx, hwx, hbx⟩ := hxv
                    have hbo := hbx
                    obtain ⟨⟨A83, k83, c83, rfl⟩, _⟩ := hbo
                    go_simp
                    refine hK _ ?_
                    clear hK K hbx hwx
                    apply wpTr_turn (V := VRow w.heap.size 3 1 (s.leaves.length + 1) (idC s.leaves ++ ([.int .i64 ui] : List Value)) (Value.slice Ai s.leaves.length ci).ownBlock w5.heap.size) (TrP.of 8 FI)
                    exact rfl
                    kernel_rfl
                    · intro wg hwg hf
                      have hsl : VSl w5.heap.size 1 1 [.int .i64 ui] (.slice A83 k83 c83) wg := hf ⟨7, .data⟩ (by simp) rfl _ _ rfl
                      have hownz := own_turn I5.out hwg (fun g hg hx => HLI.out g (HFL2.out g (trX2b hx rfl)) hg)
                      show steps _ _ _ wg (Turn FI) _
                      rw [← HFI.out]
                      exact steps_append (s := .tmp 80) (x := .tmp 83) elemIntT rfl hownz hsl.2 rfl rfl (by intro y hy; simp at hy; subst hy; rfl) (by simp only [maxLen]; omega) (by omega) (Nat.le_trans hlt5 hwg.size) hwg.size
                    intro xv hxv K hK
                    obtain ⟨wx, hwx, hbx⟩ := hxv
                    have hbo := hbx
                    obtain ⟨⟨A84, c84, rfl⟩, _⟩ := hbo
                    go_simp
                    refine hK _ ?_
                    clear hK K hbx hwx
                    repeat (first
                      | (apply wpTr_skip rfl
                         intro K hK
                         go_simp
                         refine hK _ ?_
                         clear hK K)
                      | (apply wpTr_is rfl (by kernel_rfl)
                         · intro wg hwg _
                           have v0 := Turn.cell hwg qu0 hEu
                           have v1 := Turn.cell hwg qu1 hEu
                           have p0 := Turn.cell hwg qp0 hEp
                           have p1 := Turn.cell hwg qp1 hEp
                           have p2 := Turn.cell hwg qp2 hEp
                           unfold grows
                           go_simp
                           first
                             | exact grows_value _ _
                             | (fail)
                         intro K hK
                         go_simp
                         refine hK _ ?_
                         clear hK K))
                    apply wpTr_rel (V := VRow w.heap.size 36 3 (s.leaves.length + 1) (lfC (s.leaves.zip us) ++ ([.bool true, .int .i64 (nx : Int), .slice A2 cs.length c2] : List Value)) (Value.slice Al s.leaves.length cl).ownBlock w5.heap.size) rfl (by kernel_rfl)
                    · intro wg hwg hf
                      unfold grows
                      go_simp
                      have hq : VRow w.heap.size 36 3 (s.leaves.length + 1) (lfC (s.leaves.zip us) ++ ([.bool true, .int .i64 (nx : Int), .slice A2 cs.length c2] : List Value)) (Value.slice Al s.leaves.length cl).ownBlock w5.heap.size (.slice A79 (s.leaves.length + 1) c79) wg := hf ⟨3, .data⟩ (by simp) rfl _ _ rfl
                      exact ⟨Below.refl _ _, hq⟩
                    intro xv hxv K hK
                    obtain ⟨wx, hwx, hbx⟩ := hxv
                    have hbo := hbx
                    obtain ⟨⟨A4, c4, rfl⟩, _⟩ := hbo
                    go_simp
                    refine hK _ ?_
                    clear hK K hbx hwx
                    apply wpTr_rel (V := VRow w.heap.size 3 1 (s.leaves.length + 1) (idC s.leaves ++ ([.int .i64 ui] : List Value)) (Value.slice Ai s.leaves.length ci).ownBlock w5.heap.size) rfl (by kernel_rfl)
                    · intro wg hwg hf
                      unfold grows
                      go_simp
                      have hq : VRow w.heap.size 3 1 (s.leaves.length + 1) (idC s.leaves ++ ([.int .i64 ui] : List Value)) (Value.slice Ai s.leaves.length ci).ownBlock w5.heap.size (.slice A84 (s.leaves.length + 1) c84) wg := hf ⟨8, .data⟩ (by simp) rfl _ _ rfl
                      exact ⟨Below.refl _ _, hq⟩
                    intro xv hxv K hK
                    obtain ⟨wx, hwx, hbx⟩ := hxv
                    have hbo := hbx
                    obtain ⟨⟨A5, c5, rfl⟩, _⟩ := hbo
                    go_simp
                    refine hK _ ?_
                    clear hK K hbx hwx
                    repeat (first
                      | (apply wpTr_skip rfl
                         intro K hK
                         go_simp
                         refine hK _ ?_
                         clear hK K)
                      | (apply wpTr_is rfl (by kernel_rfl)
                         · intro wg hwg _
                           have v0 := Turn.cell hwg qu0 hEu
                           have v1 := Turn.cell hwg qu1 hEu
                           have p0 := Turn.cell hwg qp0 hEp
                           have p1 := Turn.cell hwg qp1 hEp
                           have p2 := Turn.cell hwg qp2 hEp
                           unfold grows
                           go_simp
                           first
                             | exact grows_value _ _
                             | (fail)
                         intro K hK
                         go_simp
                         refine hK _ ?_
                         clear hK K))
                    refine wpTr_end (fun w6 hw6 hv6 => ?_)
                    have h3 : VRow w.heap.size 36 3 (s.leaves.length + 1) (lfC (s.leaves.zip us) ++ ([.bool true, .int .i64 (nx : Int), .slice A2 cs.length c2] : List Value)) (Value.slice Al s.leaves.length cl).ownBlock w5.heap.size (.slice A4 (s.leaves.length + 1) c4) w6 := hv6 11 _ _ rfl
                    have h8 : VRow w.heap.size 3 1 (s.leaves.length + 1) (idC s.leaves ++ ([.int .i64 ui] : List Value)) (Value.slice Ai s.leaves.length ci).ownBlock w5.heap.size (.slice A5 (s.leaves.length + 1) c5) w6 := hv6 12 _ _ rfl
                    go_wp2_with fail
                    go_roundw
                    case rel =>
                      have hrl := S5.out.leaf (i := ui) (x := (true, nx, cs)) (u := .slice A2 cs.length c2) (d := ud) hw6 (fun b hb => by
                        rw [trE2] at hb
                        exact hb.imp (HFL2.out b) (HFI2.out b)) ⟨_, _, _, rfl⟩ HUS1.out L5.out HUS3.out h3.2.1 h8.2.1
                      have hln : (s.leaves ++ [(ui, ((true, nx, cs) : Pag))]).length = s.leaves.length + 1 := by simp
                      refine ⟨_, A4, A5, ct, c4, c5, td, _, k', rfl, ?_, ?_, rfl, ?_, K5⟩
                      · simp only [hln]
                      · simp only [hln]
                      · simp only [hln]
                        exact hrl
                    case measure =>
                      obtain ⟨f6, hf6, _⟩ := S5.out.seen
                      have e6 := MpV.cnt (hf6.at (hw6.block _ hf6.lt fun hb => by
                        rw [trE2] at hb
                        rcases hb with hb | hb
                        · exact mp_ne hf6 L5.out (HFL2.out _ hb)
                        · exact mp_ne hf6 I5.out (HFI2.out _ hb)))
                      have e7 := HCNT.out
                      simp only [List.length_cons] at e6
                      simp
                      omega
                  · apply And.intro
                    · repeat (first
                        | exact trivial
                        | (refine ⟨okTr _ _, ?_⟩)
                        | (refine ⟨okTr2 VSl.stays (.inr (.inr (VSl.tstays HfL.out))) (.inr (.inr (VSl.tstays HfI.out))), ?_⟩)
                        | (refine ⟨okTr2 VRow.stays (.inl rfl) (.inr (.inr (VRow.tstays (fun g hg hx => HLI.out g hg (HFI2.out g hx)) HfI.out))), ?_⟩)
                        | (refine ⟨okTr2 VRow.stays (.inr (.inl (by kernel_rfl))) (.inr (.inr (VRow.tstays (fun g hg hx => HLI.out g hg (HFI2.out g hx)) HfI.out))), ?_⟩)
                        | (refine ⟨okTr2 VRow.stays (.inr (.inr (VRow.tstays (fun g hg hx => HLI.out g (HFL2.out g hx) hg) HfL.out))) (.inl rfl), ?_⟩)
                        | (refine ⟨okTr2 VRow.stays (.inr (.inr (VRow.tstays (fun g hg hx => HLI.out g (HFL2.out g hx) hg) HfL.out))) (.inr (.inl (by kernel_rfl))), ?_⟩)
                        )
                    · rfl
                · have hl0' : decide (0 < s.leaves.length) = false := decide_eq_false hl0
                  have hl0'' : decide ((0 : Int) < (s.leaves.length : Int)) = false := decide_eq_false (by omega)
                  clear hb
                  go_wp2_with fail
                  refine wp_region_tr [TrP.of 3 FL, TrP.of 8 FI] (by kernel_rfl) (by kernel_rfl) ?_
                  apply Exists.intro
                  apply And.intro
                  · repeat (first
                      | (apply wpTr_skip rfl
                         intro K hK
                         go_simp
                         refine hK _ ?_
                         clear hK K)
                      | (apply wpTr_is rfl (by kernel_rfl)
                         · intro wg hwg _
                           have v0 := Turn.cell hwg qu0 hEu
                           have v1 := Turn.cell hwg qu1 hEu
                           have p0 := Turn.cell hwg qp0 hEp
                           have p1 := Turn.cell hwg qp1 hEp
                           have p2 := Turn.cell hwg qp2 hEp
                           unfold grows
                           go_simp
                           first
                             | exact grows_value _ _
                             | (fail)
                         intro K hK
                         go_simp
                         refine hK _ ?_
                         clear hK K))
                    apply wpTr_rel (V := VSl w5.heap.size 3 1 [.bool true, .int .i64 (nx : Int), .slice A2 cs.length c2]) rfl (by kernel_rfl)
                    · intro wg hwg hf
                      have v0 := Turn.cell hwg qu0 hEu
                      have v1 := Turn.cell hwg qu1 hEu
                      have p0 := Turn.cell hwg qp0 hEp
                      have p1 := Turn.cell hwg qp1 hEp
                      have p2 := Turn.cell hwg qp2 hEp
                      unfold grows
                      go_simp
                      exact ⟨(Below.refl _ _).alloc (Nat.le_refl _) _, ⟨_, _, _, rfl⟩, (Sl.newb (S := fun b => b = wg.heap.size) wg 36 [.bool true, .int .i64 (nx : Int), .slice A2 cs.length c2] rfl rfl).more fun b h => ⟨by subst h; exact hwg.size, by subst h; simp⟩⟩
                    intro xv hxv K hK
                    obtain ⟨wx, hwx, hbx⟩ := hxv
                    have hbo := hbx
                    obtain ⟨⟨A78, k78, c78, rfl⟩, _⟩ := hbo
                    go_simp
                    refine hK _ ?_
                    clear hK K hbx hwx
                    apply wpTr_turn (V := VRow w.heap.size 36 3 (s.leaves.length + 1) (lfC (s.leaves.zip us) ++ ([.bool true, .int .i64 (nx : Int), .slice A2 cs.length c2] : List Value)) (Value.slice Al s.leaves.length cl).ownBlock w5.heap.size) (TrP.of 3 FL)
                    exact rfl
                    kernel_rfl
                    · intro wg hwg hf
                      have hsl : VSl w5.heap.size 3 1 [.bool true, .int .i64 (nx : Int), .slice A2 cs.length c2] (.slice A78 k78 c78) wg := hf ⟨2, .data⟩ (by simp) rfl _ _ rfl
                      have hownz := own_turn L5.out hwg (fun g hg hx => HLI.out g hg (HFI2.out g (trX2a hx rfl)))
                      show steps _ _ _ wg (Turn FL) _
                      rw [← HFL.out]
                      exact steps_append (s := .tmp 76) (x := .tmp 78) elemPg rfl hownz hsl.2 rfl rfl (by intro y hy; simp at hy; rcases hy with rfl | rfl | rfl <;> rfl) (by simp only [maxLen]; omega) (by omega) (Nat.le_trans hlt5 hwg.size) hwg.size
                    intro xv hxv K hK
                    obtain ⟨wx, hwx, hbx⟩ := hxv
                    have hbo := hbx
                    obtain ⟨⟨A79, c79, rfl⟩, _⟩ := hbo
                    go_simp
                    refine hK _ ?_
                    clear hK K hbx hwx
                    repeat (first
                      | (apply wpTr_skip rfl
                         intro K hK
                         go_simp
                         refine hK _ ?_
                         clear hK K)
                      | (apply wpTr_is rfl (by kernel_rfl)
                         · intro wg hwg _
                           have v0 := Turn.cell hwg qu0 hEu
                           have v1 := Turn.cell hwg qu1 hEu
                           have p0 := Turn.cell hwg qp0 hEp
                           have p1 := Turn.cell hwg qp1 hEp
                           have p2 := Turn.cell hwg qp2 hEp
                           unfold grows
                           go_simp
                           first
                             | exact grows_value _ _
                             | (fail)
                         intro K hK
                         go_simp
                         refine hK _ ?_
                         clear hK K))
                    apply wpTr_rel (V := VSl w5.heap.size 1 1 [.int .i64 ui]) rfl (by kernel_rfl)
                    · intro wg hwg hf
                      have v0 := Turn.cell hwg qu0 hEu
                      have v1 := Turn.cell hwg qu1 hEu
                      have p0 := Turn.cell hwg qp0 hEp
                      have p1 := Turn.cell hwg qp1 hEp
                      have p2 := Turn.cell hwg qp2 hEp
                      unfold grows
                      go_simp
                      exact ⟨(Below.refl _ _).alloc (Nat.le_refl _) _, ⟨_, _, _, rfl⟩, (Sl.newb (S := fun b => b = wg.heap.size) wg 3 [.int .i64 ui] rfl rfl).more fun b h => ⟨by subst h; exact hwg.size, by subst h; simp⟩⟩
                    intro xv hxv K hK
                    obtain ⟨wx, hwx, hbx⟩ := hxv
                    have hbo := hbx
                    obtain ⟨⟨A83, k83, c83, rfl⟩, _⟩ := hbo
                    go_simp
                    refine hK _ ?_
                    clear hK K hbx hwx
                    apply wpTr_turn (V := VRow w.heap.size 3 1 (s.leaves.length + 1) (idC s.leaves ++ ([.int .i64 ui] : List Value)) (Value.slice Ai s.leaves.length ci).ownBlock w5.heap.size) (TrP.of 8 FI)
                    exact rfl
                    kernel_rfl
                    · intro wg hwg hf
                      have hsl : VSl w5.heap.size 1 1 [.int .i64 ui] (.slice A83 k83 c83) wg := hf ⟨7, .data⟩ (by simp) rfl _ _ rfl
                      have hownz := own_turn I5.out hwg (fun g hg hx => HLI.out g (HFL2.out g (trX2b hx rfl)) hg)
                      show steps _ _ _ wg (Turn FI) _
                      rw [← HFI.out]
                      exact steps_append (s := .tmp 80) (x := .tmp 83) elemIntT rfl hownz hsl.2 rfl rfl (by intro y hy; simp at hy; subst hy; rfl) (by simp only [maxLen]; omega) (by omega) (Nat.le_trans hlt5 hwg.size) hwg.size
                    intro xv hxv K hK
                    obtain ⟨wx, hwx, hbx⟩ := hxv
                    have hbo := hbx
                    obtain ⟨⟨A84, c84, rfl⟩, _⟩ := hbo
                    go_simp
                    refine hK _ ?_
                    clear hK K hbx hwx
                    repeat (first
                      | (apply wpTr_skip rfl
                         intro K hK
                         go_simp
                         refine hK _ ?_
                         clear hK K)
                      | (apply wpTr_is rfl (by kernel_rfl)
                         · intro wg hwg _
                           have v0 := Turn.cell hwg qu0 hEu
                           have v1 := Turn.cell hwg qu1 hEu
                           have p0 := Turn.cell hwg qp0 hEp
                           have p1 := Turn.cell hwg qp1 hEp
                           have p2 := Turn.cell hwg qp2 hEp
                           unfold grows
                           go_simp
                           first
                             | exact grows_value _ _
                             | (fail)
                         intro K hK
                         go_simp
                         refine hK _ ?_
                         clear hK K))
                    apply wpTr_rel (V := VRow w.heap.size 36 3 (s.leaves.length + 1) (lfC (s.leaves.zip us) ++ ([.bool true, .int .i64 (nx : Int), .slice A2 cs.length c2] : List Value)) (Value.slice Al s.leaves.length cl).ownBlock w5.heap.size) rfl (by kernel_rfl)
                    · intro wg hwg hf
                      unfold grows
                      go_simp
                      have hq : VRow w.heap.size 36 3 (s.leaves.length + 1) (lfC (s.leaves.zip us) ++ ([.bool true, .int .i64 (nx : Int), .slice A2 cs.length c2] : List Value)) (Value.slice Al s.leaves.length cl).ownBlock w5.heap.size (.slice A79 (s.leaves.length + 1) c79) wg := hf ⟨3, .data⟩ (by simp) rfl _ _ rfl
                      exact ⟨Below.refl _ _, hq⟩
                    intro xv hxv K hK
                    obtain ⟨wx, hwx, hbx⟩ := hxv
                    have hbo := hbx
                    obtain ⟨⟨A4, c4, rfl⟩, _⟩ := hbo
                    go_simp
                    refine hK _ ?_
                    clear hK K hbx hwx
                    apply wpTr_rel (V := VRow w.heap.size 3 1 (s.leaves.length + 1) (idC s.leaves ++ ([.int .i64 ui] : List Value)) (Value.slice Ai s.leaves.length ci).ownBlock w5.heap.size) rfl (by kernel_rfl)
                    · intro wg hwg hf
                      unfold grows
                      go_simp
                      have hq : VRow w.heap.size 3 1 (s.leaves.length + 1) (idC s.leaves ++ ([.int .i64 ui] : List Value)) (Value.slice Ai s.leaves.length ci).ownBlock w5.heap.size (.slice A84 (s.leaves.length + 1) c84) wg := hf ⟨8, .data⟩ (by simp) rfl _ _ rfl
                      exact ⟨Below.refl _ _, hq⟩
                    intro xv hxv K hK
                    obtain ⟨wx, hwx, hbx⟩ := hxv
                    have hbo := hbx
                    obtain ⟨⟨A5, c5, rfl⟩, _⟩ := hbo
                    go_simp
                    refine hK _ ?_
                    clear hK K hbx hwx
                    repeat (first
                      | (apply wpTr_skip rfl
                         intro K hK
                         go_simp
                         refine hK _ ?_
                         clear hK K)
                      | (apply wpTr_is rfl (by kernel_rfl)
                         · intro wg hwg _
                           have v0 := Turn.cell hwg qu0 hEu
                           have v1 := Turn.cell hwg qu1 hEu
                           have p0 := Turn.cell hwg qp0 hEp
                           have p1 := Turn.cell hwg qp1 hEp
                           have p2 := Turn.cell hwg qp2 hEp
                           unfold grows
                           go_simp
                           first
                             | exact grows_value _ _
                             | (fail)
                         intro K hK
                         go_simp
                         refine hK _ ?_
                         clear hK K))
                    refine wpTr_end (fun w6 hw6 hv6 => ?_)
                    have h3 : VRow w.heap.size 36 3 (s.leaves.length + 1) (lfC (s.leaves.zip us) ++ ([.bool true, .int .i64 (nx : Int), .slice A2 cs.length c2] : List Value)) (Value.slice Al s.leaves.length cl).ownBlock w5.heap.size (.slice A4 (s.leaves.length + 1) c4) w6 := hv6 11 _ _ rfl
                    have h8 : VRow w.heap.size 3 1 (s.leaves.length + 1) (idC s.leaves ++ ([.int .i64 ui] : List Value)) (Value.slice Ai s.leaves.length ci).ownBlock w5.heap.size (.slice A5 (s.leaves.length + 1) c5) w6 := hv6 12 _ _ rfl
                    go_wp2_with fail
                    go_roundw
                    case rel =>
                      have hrl := S5.out.leaf (i := ui) (x := (true, nx, cs)) (u := .slice A2 cs.length c2) (d := ud) hw6 (fun b hb => by
                        rw [trE2] at hb
                        exact hb.imp (HFL2.out b) (HFI2.out b)) ⟨_, _, _, rfl⟩ HUS1.out L5.out HUS3.out h3.2.1 h8.2.1
                      have hln : (s.leaves ++ [(ui, ((true, nx, cs) : Pag))]).length = s.leaves.length + 1 := by simp
                      refine ⟨_, A4, A5, ct, c4, c5, td, _, k', rfl, ?_, ?_, rfl, ?_, K5⟩
                      · simp only [hln]
                      · simp only [hln]
                      · simp only [hln]
                        exact hrl
                    case measure =>
                      obtain ⟨f6, hf6, _⟩ := S5.out.seen
                      have e6 := MpV.cnt (hf6.at (hw6.block _ hf6.lt fun hb => by
                        rw [trE2] at hb
                        rcases hb with hb | hb
                        · exact mp_ne hf6 L5.out (HFL2.out _ hb)
                        · exact mp_ne hf6 I5.out (HFI2.out _ hb)))
                      have e7 := HCNT.out
                      simp only [List.length_cons] at e6
                      simp
                      omega
                  · apply And.intro
                    · repeat (first
                        | exact trivial
                        | (refine ⟨okTr _ _, ?_⟩)
                        | (refine ⟨okTr2 VSl.stays (.inr (.inr (VSl.tstays HfL.out))) (.inr (.inr (VSl.tstays HfI.out))), ?_⟩)
                        | (refine ⟨okTr2 VRow.stays (.inl rfl) (.inr (.inr (VRow.tstays (fun g hg hx => HLI.out g hg (HFI2.out g hx)) HfI.out))), ?_⟩)
                        | (refine ⟨okTr2 VRow.stays (.inr (.inl (by kernel_rfl))) (.inr (.inr (VRow.tstays (fun g hg hx => HLI.out g hg (HFI2.out g hx)) HfI.out))), ?_⟩)
                        | (refine ⟨okTr2 VRow.stays (.inr (.inr (VRow.tstays (fun g hg hx => HLI.out g (HFL2.out g hx) hg) HfL.out))) (.inl rfl), ?_⟩)
                        | (refine ⟨okTr2 VRow.stays (.inr (.inr (VRow.tstays (fun g hg hx => HLI.out g (HFL2.out g hx) hg) HfL.out))) (.inr (.inl (by kernel_rfl))), ?_⟩)
                        )
                    · rfl
            | false =>
              simp only [Bool.false_eq_true, if_false] at hf1
              have K5 := Lib.hid (K1.out.inner (x := (false, nx, cs)) ⟨hpk.out.2.1, hpk.out.2.2, hpk.out.1⟩ HSE.out hf1)
              clear hf1
              have hc0 : cs.length ≤ 1100 := hcl.1
              have R0 : Hid (CkSt w w5 (w.heap.size + 1) (.slice (some ⟨gt, 0, none⟩) (kdL ⟨ui, ud, uf, ut, uo⟩ cs td cs.length).length ct) (.slice Al s.leaves.length cl) (.slice Ai s.leaves.length ci) (kdL ⟨ui, ud, uf, ut, uo⟩ cs td cs.length) ⟨s.leaves, ui :: s.seen, s.depth⟩) := by
                rw [kdL_all]
                exact S5.out
              have hkl : (kdL ⟨ui, ud, uf, ut, uo⟩ cs td cs.length).length = td.length := by rw [kdL_all]
              have hwr5 : IntKind.i64.wrap ((cs.length : Int) - 1) = (cs.length : Int) - 1 := i64_inp (by omega) (by omega)
              have HKL := Lib.hid hkl
              clear hkl S5
              go_wp2_with fail
              go_loopw [3, 13] (fun tv iv wr => ∃ (At : Option Addr) (ct n : Nat), tv = .slice At (kdL ⟨ui, ud, uf, ut, uo⟩ cs td n).length ct ∧ iv = .int .i64 ((n : Int) - 1) ∧ n ≤ cs.length ∧
                Hid (CkSt w wr (w.heap.size + 1) (.slice At (kdL ⟨ui, ud, uf, ut, uo⟩ cs td n).length ct) (.slice Al s.leaves.length cl) (.slice Ai s.leaves.length ci) (kdL ⟨ui, ud, uf, ut, uo⟩ cs td n) ⟨s.leaves, ui :: s.seen, s.depth⟩) ∧
                Hid (Blk wr gu 147 #[.int .i64 ui, .int .i64 (ud : Int), .string (st uf), .string (st ut), .bool uo]) ∧ Hid (Blk wr w2.heap.size 36 #[.bool false, .int .i64 (nx : Int), .slice A2 cs.length c2]) ∧ Hid (Cs (fun b => W1.heap.size ≤ b ∧ b < w2.heap.size) wr (.slice A2 cs.length c2) cs) ∧ Hid (∀ b, (Value.slice At (kdL ⟨ui, ud, uf, ut, uo⟩ cs td n).length ct).ownBlock = some b → b < gu ∨ w2.heap.size < b)) (fun tv iv wr => (intOf iv + 1).toNat)
              case atStart => exact ⟨some ⟨gt, 0, none⟩, ct, cs.length, by rw [HKL.out], rfl, Nat.le_refl _, R0, B5u, B5p, C5, fun b hb => .inl (by have hb' : gt = b := Option.some.inj hb; omega)⟩
              case round =>
                clear R0 qu0 qu1 qu2 qu3 qu4 qp0 qp1 qp2 B5u B5p C5
                obtain ⟨At, ct2, n, rfl, rfl, hn, S6, B6u, B6p, C6, F6⟩ := hrel
                have hkn := kdL_len ⟨ui, ud, uf, ut, uo⟩ cs td n
                cases n with
                | zero =>
                  have HCNT2 : Hid (mpCnt wr (w.heap.size + 1) = s.seen.length + 1) := by
                    obtain ⟨f6, hf6, _⟩ := S6.out.seen
                    exact hf6.cnt
                  go_wp2_with fail
                  go_roundw
                  case rel => exact ⟨At, Al, Ai, ct2, cl, ci, kdL ⟨ui, ud, uf, ut, uo⟩ cs td 0, ⟨s.leaves, ui :: s.seen, s.depth⟩, k', rfl, rfl, rfl, rfl, S6, K5⟩
                  case measure =>
                    have e6 := HCNT2.out
                    have e7 := HCNT.out
                    omega
                | succ i =>
                  have ei : (((i + 1 : Nat) : Int) - 1) = (i : Int) := by omega
                  rw [ei]
                  clear ei
                  have hi0 : (0 : Int) ≤ (i : Int) := by omega
                  have hi1 : (i : Int) < (cs.length : Int) := by omega
                  have hlt : i < cs.length := by omega
                  obtain ⟨bA, oA, rfl⟩ := Cs.some C6.out (by omega)
                  have hcg := Cs.get C6.out hlt
                  have hkat : kidAt ⟨ui, ud, uf, ut, uo⟩ cs i = ⟨childT cs[i].2, ud + 1, cs[i].1, if i + 1 < cs.length then (cellAt cs (i + 1)).1 else ut, if i + 1 < cs.length then false else uo⟩ := by unfold kidAt; rw [cellAt_get hlt]
                  have hcv1 := chk_small none _ hpk.out.1.parts.2.1 cs[i] (List.getElem_mem hlt)
                  obtain ⟨ck, hck⟩ : ∃ ck, cs[i].1 = ck := ⟨_, rfl⟩
                  obtain ⟨cv, hcv⟩ : ∃ cv, cs[i].2 = cv := ⟨_, rfl⟩
                  rw [hck, hcv] at hcg hkat hcv1
                  have HKAT := Lib.hid hkat
                  have hdb : ud ≤ 1000 := by have h : ud ≤ s.seen.length := hU.out.2; omega
                  have hud1 : IntKind.i64.wrap ((ud : Int) + 1) = (ud : Int) + 1 := i64_inp (by omega) (by omega)
                  have HCH := Lib.hid (fun W : World => tchild_any ck cv W (by omega))
                  have qa1 : wr.cell? ⟨gu, 1, none⟩ = some (.int .i64 (ud : Int)) := B6u.out.cell 1
                  have qa3 : wr.cell? ⟨gu, 3, none⟩ = some (.string (st ut)) := B6u.out.cell 3
                  have qa4 : wr.cell? ⟨gu, 4, none⟩ = some (.bool uo) := B6u.out.cell 4
                  have qb2 : wr.cell? ⟨w2.heap.size, 2, none⟩ = some (.slice (some ⟨bA, oA, none⟩) cs.length c2) := B6p.out.cell 2
                  obtain ⟨qc0, qc1⟩ := hcg
                  clear hkat hck hcv
                  go_wp2_with fail
                  refine wp_region_td [TrP.new 21 147 wr.heap.size] (by kernel_rfl) (by kernel_rfl) ?_
                  apply Exists.intro
                  apply And.intro
                  · repeat (first
                      | (apply wpTd_skip rfl
                         intro K hK
                         go_simp
                         refine hK _ ?_
                         clear hK K)
                      | (apply wpTd_is rfl (by kernel_rfl)
                         · intro wg hwg _
                           replace hwg := below_new hwg
                           have v1 := cell_later hwg qa1
                           have v3 := cell_later hwg qa3
                           have v4 := cell_later hwg qa4
                           have v2 := cell_later hwg qb2
                           have v5 := cell_later hwg qc0
                           have v6 := cell_later hwg qc1
                           unfold grows
                           go_simp
                           first
                             | exact grows_value _ _
                             | (apply grows_call; go_at_call 73; exact HCH.out _)
                         intro K hK
                         go_simp
                         refine hK _ ?_
                         clear hK K))
                    apply wpTd_v (V := VNew 147 5 wr.heap.size) rfl (by kernel_rfl)
                    · intro wg hwg hf
                      unfold grows
                      go_simp
                      exact ⟨(Below.refl _ _).alloc (Nat.le_refl _) _, _, rfl, hwg.size, _, Blk.new _ _ _, rfl⟩
                    intro xv hxv K hK
                    obtain ⟨wx, hwx, hbx⟩ := hxv
                    have hbo := hbx
                    obtain ⟨g14, rfl, hg14, _⟩ := hbo
                    go_simp
                    refine hK _ ?_
                    clear hK K hbx hwx
                    apply wpTd_set (t := 147) (s0 := wr.heap.size) (g := g14) (cs := #[.int .i64 (childT cv), .int .i64 ((ud : Int) + 1), .string (st ck), .string (st ut), .bool uo]) 20 (fun _ => #[.int .i64 (childT cv), .int .i64 ((ud : Int) + 1), .string (st ck), .string (st ut), .bool uo]) (ty := 147) (x := .tmp 14) (y := .tmp 114)
                    · exact rfl
                    · kernel_rfl
                    · exact rfl
                    · exact rfl
                    · exact rfl
                    · kernel_rfl
                    · kernel_rfl
                    · kernel_rfl
                    · exact rfl
                    · intro wg hf
                      exact hf ⟨20, .data⟩ (by simp) rfl (.pointer (some ⟨g14, 0, none⟩)) (VNew 147 (Array.size #[.int .i64 (childT cv), .int .i64 ((ud : Int) + 1), .string (st ck), .string (st ut), .bool uo]) wr.heap.size) (by kernel_rfl)
                    intro hbx K hK
                    go_simp
                    refine hK _ ?_
                    clear hK K hbx
                    refine wpTd_end (fun w7 hw7 hv7 => ?_)
                    obtain ⟨_, hg7, B7n⟩ := hv7 21 undef (HasB g14 147 wr.heap.size #[.int .i64 (childT cv), .int .i64 ((ud : Int) + 1), .string (st ck), .string (st ut), .bool uo]) (by kernel_rfl)
                    have hq7 := Lib.hid (below_new hw7)
                    have hlu := B6u.out.lt
                    have hlp := B6p.out.lt
                    have B7 := Lib.hid B7n
                    have B7p := Lib.hid (B6p.out.later hq7.out)
                    have C7 : Hid (Cs (fun b => W1.heap.size ≤ b ∧ b < w2.heap.size) w7 (.slice (some ⟨bA, oA, none⟩) cs.length c2) cs) := Sl.below C6.out hq7.out fun b h => by omega
                    have hwi : IntKind.i64.wrap ((i : Int) - 1) = (i : Int) - 1 := i64_inp (by omega) (by omega)
                    have hwi2 : IntKind.i64.wrap ((i : Int) + 1) = (i : Int) + 1 := i64_inp (by omega) (by omega)
                    clear hw7 hv7 B7n qa1 qa3 qa4 qb2 qc0 qc1 hg14
                    have qb2 : w7.cell? ⟨w2.heap.size, 2, none⟩ = some (.slice (some ⟨bA, oA, none⟩) cs.length c2) := B7p.out.cell 2
                    have qn3 := B7.out.free 3
                    have qn4 := B7.out.free 4
                    have qm3 := B7.out.cell 3
                    have qm4 := B7.out.cell 4
                    by_cases hi2 : i + 1 < cs.length
                    · have hcg2 := Cs.get C7.out hi2
                      have hca2 : (cellAt cs (i + 1)).1 = cs[i + 1].1 := by rw [cellAt_get hi2]
                      have hkat2 := HKAT.out
                      rw [if_pos hi2, if_pos hi2, hca2] at hkat2
                      have HKAT2 := Lib.hid hkat2
                      generalize cs[i + 1].1 = tk at *
                      have qk := hcg2.1
                      have hi3 : ((i : Int) + 1) < (cs.length : Int) := by omega
                      have hi4 : (0 : Int) ≤ (i : Int) + 1 := by omega
                      have hi5 : ((i : Int) + 1).toNat = i + 1 := by omega
                      clear hkat2 hca2 hcg2 HKAT
                      go_upto_region 23 with (fail)
                      have hq8 := Lib.hid ((hq7.out.setCell (p := ⟨g14, 3, none⟩) hg7 (.string (st tk))).setCell (p := ⟨g14, 4, none⟩) hg7 (.bool false))
                      have B8 : Hid (Blk ((w7.setCell ⟨g14, 3, none⟩ (.string (st tk))).setCell ⟨g14, 4, none⟩ (.bool false)) g14 147 #[.int .i64 (childT cv), .int .i64 ((ud : Int) + 1), .string (st ck), .string (st tk), .bool false]) := (B7.out.put 3 _).put 4 _
                      generalize (w7.setCell ⟨g14, 3, none⟩ (.string (st tk))).setCell ⟨g14, 4, none⟩ (.bool false) = W8 at *
                      clear qk qb2 qn3 qn4 qm3 qm4 B7 B7p C7 hq7
                      have S8 := Lib.hid (S6.out.later hq8.out)
                      have qq0 : (W8).cell? ⟨g14, 0, none⟩ = some (.int .i64 (childT cv)) := B8.out.cell 0
                      have qq1 : (W8).cell? ⟨g14, 1, none⟩ = some (.int .i64 ((ud : Int) + 1)) := B8.out.cell 1
                      have qq2 : (W8).cell? ⟨g14, 2, none⟩ = some (.string (st ck)) := B8.out.cell 2
                      have qq3 : (W8).cell? ⟨g14, 3, none⟩ = some (.string (st tk)) := B8.out.cell 3
                      have qq4 : (W8).cell? ⟨g14, 4, none⟩ = some (.bool false) := B8.out.cell 4
                      have q9 := Lib.hid ((Below.refl W8.heap.size W8).alloc (Nat.le_refl _) (.cells (unC ⟨childT cv, ud + 1, ck, tk, false⟩).toArray 147))
                      have S9 := Lib.hid (S8.out.later q9.out)
                      have hto9 := Lib.hid S9.out.todo
                      have hb9 : w.heap.size ≤ (W8.alloc (.cells (unC ⟨childT cv, ud + 1, ck, tk, false⟩).toArray 147)).heap.size := S9.out.below.size
                      go_wp2_with (at_builtin; refine wpList_append_sl _ rfl (.tmp 130) (.tmp 132) elemUnd rfl hto9.out (Sl.newb (S := fun _ => True) _ 147 (unC ⟨childT cv, ud + 1, ck, tk, false⟩) rfl trivial) rfl rfl (unC_one _) (by simp only [maxLen]; omega) (by omega) hb9 ?_; intro A9 k9 c9 w9 hown9 hg9 hat9)
                      have hk9 : k9 = (kdL ⟨ui, ud, uf, ut, uo⟩ cs td (i + 1)).length + 1 := own_len hown9
                      have hkd := kdL_at ⟨ui, ud, uf, ut, uo⟩ cs td hlt
                      rw [HKAT2.out] at hkd
                      have hkl2 : (kdL ⟨ui, ud, uf, ut, uo⟩ cs td i).length = (kdL ⟨ui, ud, uf, ut, uo⟩ cs td (i + 1)).length + 1 := by rw [hkd]; rfl
                      have hz9 := q9.out.size
                      have hz8 := hq8.out.size
                      have F9 : ∀ b, (Value.slice A9 k9 c9).ownBlock = some b → b < gu ∨ w2.heap.size < b := fun b hb => by
                        rcases hat9 with h | h
                        · exact F6.out b (h ▸ hb)
                        · right
                          have hb' := Option.some.inj (h.symm.trans hb)
                          have hb2 : W8.heap.size + 1 = b := by rw [← hb']; simp
                          omega
                      have hB9u := ((B6u.out.later hq8.out).later q9.out).grown hg9 (fun e => by have := F6.out _ e; omega)
                      have hB9p := ((B6p.out.later hq8.out).later q9.out).grown hg9 (fun e => by have := F6.out _ e; omega)
                      have hC9 : Cs (fun b => W1.heap.size ≤ b ∧ b < w2.heap.size) w9 (.slice (some ⟨bA, oA, none⟩) cs.length c2) cs := Sl.grown (Sl.below (Sl.below C6.out hq8.out fun b h => by omega) q9.out fun b h => by omega) hg9 (fun b h => by omega) (fun b h e => by have := F6.out b e.symm; omega)
                      have hS9 := S9.out.putT (tv' := .slice A9 k9 c9) (td' := kdL ⟨ui, ud, uf, ut, uo⟩ cs td i) (by
                        rw [hkl2, hkd, List.reverse_cons, unsC_app, unsC_one]
                        exact hown9) hg9
                      clear S9 hto9 hown9 hg9 hat9
                      go_roundw
                      case rel =>
                        refine ⟨A9, c9, i, ?_, ?_, by omega, ?_, hB9u, hB9p, hC9, ?_⟩
                        · rw [hkl2, ← hk9]
                        · rfl
                        · rw [hkl2, ← hk9]
                          exact hS9
                        · rw [hkl2, ← hk9]
                          exact F9
                      case measure => first | (simp [intOf]; done) | (simp [intOf]; omega)
                    · have hkat2 := HKAT.out
                      rw [if_neg hi2, if_neg hi2] at hkat2
                      have HKAT2 := Lib.hid hkat2
                      have hi3 : decide ((i : Int) + 1 < (cs.length : Int)) = false := decide_eq_false (by omega)
                      have hi4 : decide (i + 1 < cs.length) = false := decide_eq_false hi2
                      clear hkat2 HKAT
                      go_upto_region 23 with (fail)
                      have hq8 := hq7
                      have B8 := B7
                      generalize w7 = W8 at *
                      clear qb2 qn3 qn4 qm3 qm4 B7 B7p C7 hq7
                      have S8 := Lib.hid (S6.out.later hq8.out)
                      have qq0 : (W8).cell? ⟨g14, 0, none⟩ = some (.int .i64 (childT cv)) := B8.out.cell 0
                      have qq1 : (W8).cell? ⟨g14, 1, none⟩ = some (.int .i64 ((ud : Int) + 1)) := B8.out.cell 1
                      have qq2 : (W8).cell? ⟨g14, 2, none⟩ = some (.string (st ck)) := B8.out.cell 2
                      have qq3 : (W8).cell? ⟨g14, 3, none⟩ = some (.string (st ut)) := B8.out.cell 3
                      have qq4 : (W8).cell? ⟨g14, 4, none⟩ = some (.bool uo) := B8.out.cell 4
                      have q9 := Lib.hid ((Below.refl W8.heap.size W8).alloc (Nat.le_refl _) (.cells (unC ⟨childT cv, ud + 1, ck, ut, uo⟩).toArray 147))
                      have S9 := Lib.hid (S8.out.later q9.out)
                      have hto9 := Lib.hid S9.out.todo
                      have hb9 : w.heap.size ≤ (W8.alloc (.cells (unC ⟨childT cv, ud + 1, ck, ut, uo⟩).toArray 147)).heap.size := S9.out.below.size
                      go_wp2_with (at_builtin; refine wpList_append_sl _ rfl (.tmp 130) (.tmp 132) elemUnd rfl hto9.out (Sl.newb (S := fun _ => True) _ 147 (unC ⟨childT cv, ud + 1, ck, ut, uo⟩) rfl trivial) rfl rfl (unC_one _) (by simp only [maxLen]; omega) (by omega) hb9 ?_; intro A9 k9 c9 w9 hown9 hg9 hat9)
                      have hk9 : k9 = (kdL ⟨ui, ud, uf, ut, uo⟩ cs td (i + 1)).length + 1 := own_len hown9
                      have hkd := kdL_at ⟨ui, ud, uf, ut, uo⟩ cs td hlt
                      rw [HKAT2.out] at hkd
                      have hkl2 : (kdL ⟨ui, ud, uf, ut, uo⟩ cs td i).length = (kdL ⟨ui, ud, uf, ut, uo⟩ cs td (i + 1)).length + 1 := by rw [hkd]; rfl
                      have hz9 := q9.out.size
                      have hz8 := hq8.out.size
                      have F9 : ∀ b, (Value.slice A9 k9 c9).ownBlock = some b → b < gu ∨ w2.heap.size < b := fun b hb => by
                        rcases hat9 with h | h
                        · exact F6.out b (h ▸ hb)
                        · right
                          have hb' := Option.some.inj (h.symm.trans hb)
                          have hb2 : W8.heap.size + 1 = b := by rw [← hb']; simp
                          omega
                      have hB9u := ((B6u.out.later hq8.out).later q9.out).grown hg9 (fun e => by have := F6.out _ e; omega)
                      have hB9p := ((B6p.out.later hq8.out).later q9.out).grown hg9 (fun e => by have := F6.out _ e; omega)
                      have hC9 : Cs (fun b => W1.heap.size ≤ b ∧ b < w2.heap.size) w9 (.slice (some ⟨bA, oA, none⟩) cs.length c2) cs := Sl.grown (Sl.below (Sl.below C6.out hq8.out fun b h => by omega) q9.out fun b h => by omega) hg9 (fun b h => by omega) (fun b h e => by have := F6.out b e.symm; omega)
                      have hS9 := S9.out.putT (tv' := .slice A9 k9 c9) (td' := kdL ⟨ui, ud, uf, ut, uo⟩ cs td i) (by
                        rw [hkl2, hkd, List.reverse_cons, unsC_app, unsC_one]
                        exact hown9) hg9
                      clear S9 hto9 hown9 hg9 hat9
                      go_roundw
                      case rel =>
                        refine ⟨A9, c9, i, ?_, ?_, by omega, ?_, hB9u, hB9p, hC9, ?_⟩
                        · rw [hkl2, ← hk9]
                        · rfl
                        · rw [hkl2, ← hk9]
                          exact hS9
                        · rw [hkl2, ← hk9]
                          exact F9
                      case measure => first | (simp [intOf]; done) | (simp [intOf]; omega)
                  · apply And.intro
                    · repeat (first
                        | exact trivial
                        | (refine ⟨okD_is _ _, ?_⟩)
                        | (refine ⟨okD_v VNew.stays (fun p hp _ _ => by obtain rfl := List.mem_singleton.1 hp; exact VNew.put), ?_⟩)
                        | (refine ⟨DSet.ok (by kernel_rfl) (fun _ _ _ => rfl) (fun p hp hn _ => absurd rfl (by obtain rfl := List.mem_singleton.1 hp; exact hn)), ?_⟩)
                        )
                    · rfl
end Go.Proofs.YthbhkdhljlganaaGreatDoor
