/- The disk: Write, Read, Free. -/
import Derived.Test.YtpmndmgfoiagnaaDoorDskE
import Derived.BigQuiet
import Derived.Deep.QuietTactic
namespace Go.Proofs.YtpmndmgfoiagnaaDoor
open Go Go.RowKit
set_option linter.unusedVariables false

/-- What the walk of a look at the view wants. -/
theorem Dk.look {w : World} {h : Zn} {D : Dsk} (d : Dk w h D) {a : Int} (ha : InI a) : ∃ v, (Instr.lookup 62 (.map (some h.bv)) (.int .i64 a) true).run Tryd.prog w = .ok (.tuple #[v, .bool (D.view a).isSome]) w ∧
    ∀ l, D.view a = some l → Ub w 0 v l := by
  obtain ⟨m, hm, hr⟩ := d.view
  have hs := hr a ha
  refine ⟨_, by rw [← hs.some_iff]; exact hm.look intTy secTy (nilBytes w) ha, fun l hl => ?_⟩
  rw [hl] at hs
  cases hma : m a with
  | none => rw [hma] at hs; exact hs.elim
  | some v => rw [hma] at hs; exact hs
theorem Dk.len {w : World} {h : Zn} {D : Dsk} (d : Dk w h D) (n : Nat) (ty : TypeId) : (Builtin.len_ #[62] ty #[.map (some h.bv)]).run Tryd.prog (w.drewN n) = .ok (.int .i64 (D.nv : Int)) (w.drewN n) := by
  obtain ⟨m, hm, hr⟩ := d.view
  have h2 : MpV Tryd.prog 3 (w.drewN n) h.bv m D.nv := hm.at rfl
  exact h2.len intTy secTy ty

set_option maxHeartbeats 2000000 in
set_option maxRecDepth 100000 in
theorem dread_any (h : Zn) (D : Dsk) (a : Int) (w : World) (hd : Dk w h D) (hok : D.Ok) (ha : InI a) :
    Calls Tryd.prog 38 #[.pointer (some ⟨h.g, 0, none⟩), .int .i64 a] w fun e w' =>
      (∀ l, D.view a = some l → ∃ A c, e = .returned (.tuple #[.slice A l.length c, .int .i64 0]) ∧ Ob 5 w' w.heap.size (.slice A l.length c) l) ∧
      (D.view a = none → e = .returned (.tuple #[.slice none 0 0, .int .i64 61])) ∧ Below w.heap.size w w' := by
  obtain ⟨v, hlk, hv⟩ := hd.look ha
  have hd2 : w.cell? ⟨h.g, 2, none⟩ = some (.map (some h.bv)) := hd.blk.cell 2
  have HV := Lib.hid hv
  have HOK := Lib.hid hok
  cases hva : D.view a with
  | none =>
    rw [hva] at hlk
    simp only [Option.isSome_none] at hlk
    clear hd hv hok
    go_enter Tryd.func38, Tryd.ntmps38
    go_wp2_with fail
    go_ret2
    exact ⟨(fun l h => by cases h), fun _ => rfl, Below.refl _ _⟩
  | some l =>
    rw [hva] at hlk
    simp only [Option.isSome_some] at hlk
    have hub := hv l hva
    obtain ⟨A, c, rfl, _⟩ := hub.bs.at
    have HU := Lib.hid hub
    have hll : l.length ≤ 512 := (hok.view.at hva).2.2
    clear hd hv hok hub HV
    go_enter Tryd.func38, Tryd.ntmps38
    go_wp2_with (first
      | (at_builtin; refine wpList_append_bs _ rfl (.tmp 19) (.tmp 20) elemU8 rfl (Ob.made _ _ w.heap.size (Nat.le_refl _) (by simp)) (Sl.alloc1 HU.out _) rfl rfl (by simp; omega) (by simp) ?_; intro A1 k1 c1 w1 hown1 hga1 hat1)
      | fail)
    go_ret2
    have q : Below w.heap.size w w1 := below_grown_own ((Below.refl _ _).alloc (Nat.le_refl _) _) (Ob.made _ _ w.heap.size (Nat.le_refl _) (by simp)) hga1 (by simp)
    have ho : Ob 5 w1 w.heap.size (.slice A1 k1 c1) l := by simpa using hown1
    obtain rfl := ho.len
    exact ⟨fun l' h' => (by cases h'; exact ⟨A1, c1, rfl, ho⟩), (fun h => by cases h), q⟩

/-- Why a sector may not be given back. -/
def Dsk.freeE (D : Dsk) (a : Int) : Nat := if (D.view a).isSome then 0 else 61
set_option maxHeartbeats 2000000 in
set_option maxRecDepth 100000 in
theorem dfree_any (h : Zn) (D : Dsk) (a : Int) (w : World) (hd : Dk w h D) (hok : D.Ok) (ha : InI a) (hlen : D.pend.length ≤ 1000000000) :
    Calls Tryd.prog 27 #[.pointer (some ⟨h.g, 0, none⟩), .int .i64 a] w fun e w' => e = .returned (.int .i64 (D.freeE a : Int)) ∧ ∃ h', Dk w' h' (D.free a) ∧ Stp h w h' w' := by
  obtain ⟨v, hlk, hv⟩ := hd.look ha
  have hd2 : w.cell? ⟨h.g, 2, none⟩ = some (.map (some h.bv)) := hd.blk.cell 2
  have HD := Lib.hid hd
  have HOK := Lib.hid hok
  cases hva : D.view a with
  | none =>
    rw [hva] at hlk
    simp only [Option.isSome_none] at hlk
    have HF : Hid (D.free a = D) := by unfold Dsk.free; rw [Hid, hva]; rfl
    have HFE : Hid (D.freeE a = 61) := by unfold Dsk.freeE; rw [Hid, hva]; rfl
    clear hd hv hok
    go_enter Tryd.func27, Tryd.ntmps27
    go_wp2_with fail
    go_ret
    exact ⟨by rw [HFE.out]; rfl, h, by rw [HF.out]; exact HD.out, Stp.refl _ _⟩
  | some l =>
    rw [hva] at hlk
    simp only [Option.isSome_some] at hlk
    have HF : Hid (D.free a = D.put (.fr a) 0) := by unfold Dsk.free; rw [Hid, hva]; rfl
    have HFE : Hid (D.freeE a = 0) := by unfold Dsk.freeE; rw [Hid, hva]; rfl
    have hpo : PnOk (.fr a) := by have := hok.view.at hva; exact ⟨this.1, this.2.1⟩
    have HP := Lib.hid hpo
    clear hd hv hok hpo
    go_enter Tryd.func27, Tryd.ntmps27
    go_wp2_with fail
    refine (freeing_any a w).mono ?_
    rintro e w1 ⟨pv, rfl, hpn, hbl⟩
    go_wp2_with fail
    refine (ddo_any h D pv (.fr a) 0 w1 (HD.out.later hbl) HOK.out hpn HP.out (by unfold InI; omega) hlen).mono ?_
    rintro e w2 ⟨rfl, h', hd', hs'⟩
    go_wp2_with fail
    go_ret
    exact ⟨by rw [HFE.out]; rfl, h', by rw [HF.out]; exact hd', (Stp.below hbl).trans hs'⟩

set_option maxHeartbeats 4000000 in
set_option maxRecDepth 100000 in
theorem dwrite_any (h : Zn) (D : Dsk) (a : Int) (S : Nat → Prop) (v0 : Value) (b : List UInt8) (w : World) (hd : Dk w h D) (hok : D.Ok) (ha : InI a) (hb : Bs S w v0 b) (hbl : b.length ≤ 1099511627776) (hlen : D.pend.length ≤ 1000000000) :
    Calls Tryd.prog 29 #[.pointer (some ⟨h.g, 0, none⟩), .int .i64 a, v0] w fun e w' => e = .returned (.int .i64 (D.why a b : Int)) ∧ ∃ h', Dk w' h' (D.write a b) ∧ Stp h w h' w' := by
  obtain ⟨v, hlk, hv⟩ := hd.look ha
  obtain ⟨A, c, rfl, _⟩ := hb.at
  have hd0 : w.cell? ⟨h.g, 0, none⟩ = some (.int .i64 D.size) := hd.blk.cell 0
  have hd1 : w.cell? ⟨h.g, 1, none⟩ = some (.int .i64 D.limit) := hd.blk.cell 1
  have hd2 : w.cell? ⟨h.g, 2, none⟩ = some (.map (some h.bv)) := hd.blk.cell 2
  have HD := Lib.hid hd
  have HOK := Lib.hid hok
  have HB := Lib.hid hb
  have HA := Lib.hid ha
  have hln := fun n ty => hd.len n ty
  have hwy : Hid (D.why a b = if a < 0 ∨ D.size ≤ a then 61 else if 512 < b.length then 62 else if (D.view a).isNone ∧ D.limit ≤ (D.nv : Int) then 63 else 0) := rfl
  have HWR : Hid (D.write a b = if D.why a b = 0 then D.put (.wr a b) b.length else D) := rfl
  clear hd hok hv hb ha
  by_cases c1 : a < 0 ∨ D.size ≤ a
  · have HW : Hid (D.why a b = 61) := by rw [Hid, hwy.out, if_pos c1]
    have HE : Hid (D.write a b = D) := by rw [Hid, HWR.out, HW.out]; rfl
    rcases Decidable.em (a < 0) with h0 | h0
    case' inl => have hx := h0
    case' inr => have hx : D.size ≤ a := c1.resolve_left h0
    all_goals
      clear c1
      go_enter Tryd.func29, Tryd.ntmps29
      go_wp2_with fail
      go_ret
      exact ⟨by rw [HW.out]; rfl, h, by rw [HE.out]; exact HD.out, Stp.refl _ _⟩
  · have c11 : ¬ a < 0 := fun e => c1 (.inl e)
    have c12 : ¬ D.size ≤ a := fun e => c1 (.inr e)
    by_cases c2 : 512 < b.length
    · have HW : Hid (D.why a b = 62) := by rw [Hid, hwy.out, if_neg c1, if_pos c2]
      have HE : Hid (D.write a b = D) := by rw [Hid, HWR.out, HW.out]; rfl
      clear c1
      go_enter Tryd.func29, Tryd.ntmps29
      go_wp2_with fail
      go_ret
      exact ⟨by rw [HW.out]; rfl, h, by rw [HE.out]; exact HD.out, Stp.refl _ _⟩
    · obtain ⟨U, hU⟩ : ∃ U, (D.view a).isSome = U := ⟨_, rfl⟩
      rw [hU] at hlk
      by_cases c3 : (D.view a).isNone ∧ D.limit ≤ (D.nv : Int)
      · have HW : Hid (D.why a b = 63) := by rw [Hid, hwy.out, if_neg c1, if_neg c2, if_pos c3]
        have HE : Hid (D.write a b = D) := by rw [Hid, HWR.out, HW.out]; rfl
        have hUf : U = false := by rw [← hU]; have := c3.1; cases h1 : D.view a <;> simp_all
        subst hUf
        have c31 := c3.2
        clear c1 c3 hU
        go_enter Tryd.func29, Tryd.ntmps29
        go_wp2_with fail
        go_quiet (fail)
        go_wp2_with fail
        go_ret
        exact ⟨by rw [HW.out]; rfl, h, by rw [HE.out]; exact HD.out.later (below_drewN (Below.refl _ _) _), Stp.below (below_drewN (Below.refl _ _) _)⟩
      · have HW : Hid (D.why a b = 0) := by rw [Hid, hwy.out, if_neg c1, if_neg c2, if_neg c3]
        have HE : Hid (D.write a b = D.put (.wr a b) b.length) := by rw [Hid, HWR.out, HW.out]; rfl
        have HPO : Hid (PnOk (.wr a b)) := by
          have := why_zero HW.out
          have h2 := HOK.out.size
          exact ⟨this.1, by omega, this.2.2⟩
        have hcase : U = true ∨ U = false ∧ ¬ D.limit ≤ (D.nv : Int) := by
          cases h1 : D.view a with
          | none => right; rw [← hU, h1]; exact ⟨rfl, fun e => c3 ⟨by rw [h1]; rfl, e⟩⟩
          | some l => left; rw [← hU, h1]; rfl
        clear c1 c3 hU
        rcases hcase with rfl | ⟨rfl, c31⟩
        all_goals
          go_enter Tryd.func29, Tryd.ntmps29
          go_wp2_with fail
          go_quiet (fail)
          have hq0 : Below w.heap.size w (w.drewN nq) := below_drewN (Below.refl _ _) _
          have HBW : Hid (Bs S (w.drewN nq) (.slice A b.length c) b) := HB.out
          have HDW : Hid (Dk (w.drewN nq) h D) := HD.out.later hq0
          generalize w.drewN nq = W at *
          go_wp2_with (first
            | (at_builtin; refine wpList_append_bs _ rfl (.tmp 48) (.tmp 49) elemU8 rfl (Ob.made _ _ W.heap.size (Nat.le_refl _) (by simp)) (Sl.alloc1 HBW.out _) rfl rfl (by simp; omega) (by simp) ?_; intro A1 k1 c1 w1 hown1 hga1 hat1; have hob : Ob 5 w1 W.heap.size (.slice A1 k1 c1) b := (by simpa using hown1); have hk1 := hob.len; subst hk1)
            | fail)
          have q1 : Below W.heap.size W w1 := below_grown_own ((Below.refl _ _).alloc (Nat.le_refl _) _) (Ob.made _ _ W.heap.size (Nat.le_refl _) (by simp)) hga1 (by simp)
          refine (writing_any a A1 c1 b w1 ((Ub.of_own hob).lower (Nat.zero_le _))).mono ?_
          rintro e w2 ⟨pv, rfl, hpn, hbl2⟩
          have q2 : Below W.heap.size W w2 := q1.trans (hbl2.mono q1.size)
          go_wp2_with fail
          refine (ddo_any h D pv (.wr a b) b.length w2 (HDW.out.later q2) HOK.out hpn HPO.out (by unfold InI; omega) hlen).mono ?_
          rintro e w3 ⟨rfl, h', hd', hs'⟩
          go_wp2_with fail
          go_ret
          exact ⟨by rw [HW.out]; rfl, h', by rw [HE.out]; exact hd', (Stp.below (hq0.trans (q2.mono hq0.size))).trans hs'⟩
end Go.Proofs.YtpmndmgfoiagnaaDoor
