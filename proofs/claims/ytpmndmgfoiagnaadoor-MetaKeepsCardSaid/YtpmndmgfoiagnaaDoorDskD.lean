/- disk.sectors.copied: what it returns. -/
import Derived.Test.YtpmndmgfoiagnaaDoorDskC
namespace Go.Proofs.YtpmndmgfoiagnaaDoor
open Go Go.RowKit
set_option linter.unusedVariables false

theorem grown_of_below {w w' : World} (h : Below w.heap.size w w') : w.grownBy w' none := ⟨h.os, h.tape, h.output, h.size, fun i hi _ => h.block i hi⟩
/-- What the copying has done: those that are left are to come. -/
structure CpSt (w wr : World) (bm : Nat) (m : Int → Option Value) (f : SF) (n0 : Nat) (left : Int → Bool) (cnt : Nat) (mo : Int → Option Value) (no : Nat) : Prop where
  rg : RgV Tryd.prog 3 wr bm (w.heap.size + 1) m n0 left cnt
  out : MpV Tryd.prog 3 wr w.heap.size mo no
  come : ∀ x, InI x → left x = true → mo x = none
  done : ∀ x, InI x → left x = false → SecV wr (mo x) (f x)
  num : no + cnt ≤ n0
  below : Below w.heap.size w wr

set_option maxHeartbeats 4000000 in
set_option maxRecDepth 100000 in
theorem copied_any (bm n0 : Nat) (f : SF) (w : World) (hs : Secs w bm f n0) (hf : FinK f n0) :
    Calls Tryd.prog 30 #[.map (some bm)] w fun e w' => ∃ bo, e = .returned (.map (some bo)) ∧ w.heap.size ≤ bo ∧ Secs w' bo f n0 ∧ Below w.heap.size w w' := by
  obtain ⟨m, hm, hr⟩ := hs
  have hmm := @run_makeMap Tryd.prog
  have hbl := hm.lt
  have hn0 := hf.bound
  have e1 : (w.alloc (.map #[] 0)).heap.size = w.heap.size + 1 := by simp
  have HR := Lib.hid hr
  have HF := Lib.hid hf
  have HM := Lib.hid (hm.alloc (.map #[] 0))
  have hLeft : Hid (∀ a, ((m a).isSome && decide (-9223372036854775808 ≤ a) && decide (a ≤ 9223372036854775807)) = true ↔ InI a ∧ (m a).isSome = true) := fun a => by
    unfold InI
    simp only [Bool.and_eq_true, decide_eq_true_eq]
    exact ⟨fun h => ⟨⟨h.1.2, h.2⟩, h.1.1⟩, fun h => ⟨⟨h.2, h.1.1⟩, h.1.2⟩⟩
  clear hr hf hm
  go_enter Tryd.func30, Tryd.ntmps30
  go_wp2_with (first
    | (at_range; refine wpList_range_mp _ rfl _ 62 rfl intTy secTy rfl HM.out _ hLeft.out ?_; intro w0 hrg0 hg0 hs0)
    | fail)
  go_frame
  rw [e1] at hrg0 hs0 ⊢
  have S0 : CpSt w w0 bm m f n0 (fun a => (m a).isSome && decide (-9223372036854775808 ≤ a) && decide (a ≤ 9223372036854775807)) n0 (fun _ => none) 0 := by
    refine ⟨hrg0, (MpV.made _ _ w).at (hg0.block w.heap.size (by simp) (by simp)), fun _ _ _ => rfl, fun x hx hl => ?_, by omega, ((Below.refl _ _).alloc (Nat.le_refl _) _).grown hg0 (by simp) (fun j hj => by cases hj)⟩
    have h1 : (m x).isSome = false := by
      cases h2 : (m x).isSome with
      | false => rfl
      | true => have := (hLeft.out x).2 ⟨hx, h2⟩; rw [hl] at this; cases this
    have h3 := HR.out x hx
    have h4 := h3.some_iff
    rw [h1] at h4
    cases hfx : f x with
    | none => trivial
    | some l => rw [hfx] at h4; cases h4
  clear hrg0 hg0 hs0
  go_loopw [4, 5] (fun _ _ wr => ∃ (left : Int → Bool) (cnt : Nat) (mo : Int → Option Value) (no : Nat), CpSt w wr bm m f n0 left cnt mo no) (fun _ _ wr => wr.rangeLeft bm (w.heap.size + 1))
  case atStart => exact ⟨_, _, _, _, S0⟩
  case round =>
    clear S0
    obtain ⟨left, cnt, mo, no, hst⟩ := hrel
    have HST := Lib.hid hst
    have hrg := hst.rg
    clear hst
    go_wp2_with (first
      | (at_next; refine wpList_next_mp _ rfl _ rfl intTy rfl hrg ?_ ?_)
      | fail)
    · intro hc0 hl0
      go_wp2
      go_ret
      refine ⟨_, rfl, Nat.le_refl _, ⟨mo, ?_, fun x hx => HST.out.done x hx (hl0 x)⟩, HST.out.below⟩
      have h1 := HST.out.num
      obtain ⟨l, hl, hlo⟩ := HF.out
      have h2 := HST.out.out
      have h3 := h2.ge intTy hl.nodup fun x hx => by
        obtain ⟨y, hy, rfl⟩ := List.mem_map.1 hx
        have hi : InI y.1 := by have := hlo y hy; unfold SecOk at this; unfold InI; omega
        refine ⟨hi, ?_⟩
        rw [(HST.out.done y.1 hi (hl0 y.1)).some_iff]
        exact (hl.has y.1).2 hx
      rw [List.length_map, hl.len] at h3
      rw [show no = n0 by omega] at h2
      exact h2
    · intro x c w1 cnt1 hx hlx hmx hrg1 hlt hg1 hs1 hen
      have hsec := HR.out x hx
      rw [hmx] at hsec
      obtain ⟨l, hfx⟩ : ∃ l, f x = some l := by
        cases hfx : f x with
        | none => rw [hfx] at hsec; exact hsec.elim
        | some l => exact ⟨l, rfl⟩
      rw [hfx] at hsec
      have hub0 : Ub w 0 c l := hsec
      have q1 : Below w.heap.size w w1 := HST.out.below.grown hg1 HST.out.below.size (fun j hj => by cases hj; exact Nat.le_succ _)
      have hub := hub0.later q1
      obtain ⟨A, cp, rfl, _⟩ := hub.bs.at
      have hll : l.length ≤ 512 := (HF.out.at hfx).2.2
      have HU := Lib.hid hub
      have HX := Lib.hid hx
      have HFX := Lib.hid hfx
      have HLX := Lib.hid hlx
      have HRG := Lib.hid hrg1
      have HG1 := Lib.hid hg1
      have HOUT : Hid (MpV Tryd.prog 3 w1 w.heap.size mo no) := HST.out.out.at (hg1.block _ HST.out.out.lt (by simp))
      have hsz1 := q1.size
      have hnum := HST.out.num
      clear hsec hub0 hub hmx hrg1 hlx hfx hx hg1 hs1
      go_wp2_with (first
        | (at_builtin; refine wpList_append_bs _ rfl (.tmp 16) (.tmp 17) elemU8 rfl (Ob.made _ _ w1.heap.size (Nat.le_refl _) (by simp)) (Sl.alloc1 HU.out _) rfl rfl (by simp; omega) (by simp) ?_; intro A1 k1 c1 w2 hown1 hga hat1; have qa : Below w1.heap.size w1 w2 := below_grown_own ((Below.refl _ _).alloc (Nat.le_refl _) _) (Ob.made _ _ w1.heap.size (Nat.le_refl _) (by simp)) hga (by simp); obtain ⟨w3, hrun3, hm3, ht3⟩ := (HOUT.out.later qa).put intTy secTy (by unfold maxLen; omega) HX.out (.slice A1 k1 c1); have QA := Lib.hid qa; have HM3 := Lib.hid hm3; have HT3 := Lib.hid ht3; clear qa hm3 ht3)
        | fail)
      go_roundw
      case rel =>
        have hg3 : w1.grownBy w3 (some w.heap.size) := grown_then QA.out HT3.out.grown
        have hmox := HST.out.come x HX.out HLX.out
        have hub2 : Ub w2 0 (.slice A1 k1 c1) l := (Ub.of_own (by simpa using hown1)).lower (Nat.zero_le _)
        have hkz : kindAt w2 w.heap.size ≠ some (some 5) := by rw [kind_map (HOUT.out.later QA.out)]; simp
        have hkey : ∀ v l, Ub (wr) 0 v l → Ub w3 0 v l := fun v l h => Ub.other ((h.keep fun b hb => HG1.out.block b (by obtain ⟨_, cs, fz, hh⟩ := hb; exact lt_of_block hh) (fun e => by
          injection e with e
          subst e
          obtain ⟨_, cs, fz, hh⟩ := hb
          have := HST.out.rg
          obtain ⟨D, lf, h1, _⟩ := this
          obtain ⟨es, clock, since, seen, c0, _, _, _, _, hr0, _⟩ := h1
          rw [hr0] at hh
          cases hh)).later QA.out) hkz HT3.out.grown
        refine ⟨_, cnt1, _, _, ⟨HRG.out.kept hg3 (fun e => by have := Option.some.inj e; omega) (fun e => by have := Option.some.inj e; omega), HM3.out, fun z hz hl => ?_, fun z hz hl => ?_, ?_, (q1.grown hg3 hsz1 (fun j hj => by cases hj; exact Nat.le_refl _))⟩⟩
        · simp only [Bool.and_eq_true, Bool.not_eq_true', beq_eq_false_iff_ne] at hl
          rw [if_neg hl.2]
          exact HST.out.come z hz hl.1
        · by_cases hzx : z = x
          · subst hzx
            simp only [if_true, HFX.out]
            exact hub2.other hkz HT3.out.grown
          · simp only [hzx, if_false]
            have hlz : left z = false := by
              cases h : left z with
              | false => rfl
              | true => rw [h] at hl; simp [hzx] at hl
            exact (HST.out.done z hz hlz).keep hkey
        · unfold nPut
          rw [hmox]
          simp only [Option.isSome_none, Bool.false_eq_true, if_false]
          omega
      case measure =>
        have hg3 : w1.grownBy w3 (some w.heap.size) := grown_then QA.out HT3.out.grown
        have hrg3 := HRG.out.kept hg3 (fun e => by have := Option.some.inj e; omega) (fun e => by have := Option.some.inj e; omega)
        rw [hrg3.left_eq, HST.out.rg.left_eq]
        exact hlt
end Go.Proofs.YtpmndmgfoiagnaaDoor
