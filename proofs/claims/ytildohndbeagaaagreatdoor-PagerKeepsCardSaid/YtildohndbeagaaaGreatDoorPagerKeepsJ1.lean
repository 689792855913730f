/- What the proof of PagerKeeps needs, part 1. -/
import Derived.Test.YtildohndbeagaaaGreatDoorPagerLeastJ48
import Derived.Test.YtildohndbeagaaaGreatDoorPagerLeastJ36
import Derived.Test.YtildohndbeagaaaGreatDoorPagerLeastJ37
import Derived.Test.YtildohndbeagaaaGreatDoorPagerLeastJ31
import Derived.Test.YtildohndbeagaaaGreatDoorPagerLeastJ28
import Derived.Test.YtildohndbeagaaaGreatDoorPagerLeastJ29
import Derived.IntWalk
namespace Go.Proofs.YtildohndbeagaaaGreatDoor
open Go Go.RowKit
set_option linter.unusedVariables false

theorem blk_ne {W : World} {g g' : Nat} {t t' : TypeId} {cs cs' : Array Value} (h : Blk W g t cs) (h' : Blk W g' t' cs') (ht : t ≠ t') : g ≠ g' := fun e => by
  subst e
  have := (kind_blk h).symm.trans (kind_blk h')
  exact ht (by simpa using this)
theorem Pgr.write_fix (P : Pgr) (x : Int) (b : List UInt8) : (P.write x b).a = P.a ∧ (P.write x b).n = P.n ∧ (P.write x b).num = P.num := by
  unfold Pgr.write
  split <;> exact ⟨rfl, rfl, rfl⟩
theorem Pgr.free_fix (P : Pgr) (x : Int) : (P.free x).a = P.a ∧ (P.free x).n = P.n ∧ (P.free x).num = P.num := by
  unfold Pgr.free
  split <;> exact ⟨rfl, rfl, rfl⟩
theorem Pgr.alloc_fix (P : Pgr) (b : List UInt8) : (P.alloc b).1.a = P.a ∧ (P.alloc b).1.n = P.n ∧ (P.alloc b).1.num = P.num := by
  unfold Pgr.alloc
  split
  · exact ⟨rfl, rfl, rfl⟩
  · cases P.least <;> exact ⟨rfl, rfl, rfl⟩
theorem Pgr.act_fix (P : Pgr) (k id : Int) (b : List UInt8) : (P.act k id b).a = P.a ∧ (P.act k id b).n = P.n ∧ (P.act k id b).num = P.num := by
  unfold Pgr.act
  split
  · exact P.write_fix id b
  split
  · exact P.free_fix id
  split
  · exact P.alloc_fix b
  split <;> exact ⟨rfl, rfl, rfl⟩
theorem px_alike {w W : World} {Z : Pz} {P : Pgr} {c : Int → List UInt8} {R : Rpg} {cs : Array Value} (p : Px w W Z P c) (al : Al P c R) (rc : Rc R cs) {g : Nat} (hg : Z.g = g) :
    Calls Tryz.prog 11 #[.pointer (some ⟨g, 0, none⟩), .agg cs] W fun e W' => e = .returned (.bool true) ∧ Below W.heap.size W W' := by
  subst hg
  exact alike_any Z P c cs W p.pg p.pk.kp.mj.still.ok p.pk.stored p.pk.wlen p.pk.kp.mj.a0 p.pk.a1 (fun x h => p.pk.has90 h) (al.lk rc)
theorem Al.cWhy {P : Pgr} {c : Int → List UInt8} {R : Rpg} (h : Al P c R) (pk : Pk P c) (tag : Nat) : (P.next = none → R.cWhy = 133 ∧ R.commit tag = R) ∧ (P.next ≠ none → R.cWhy = 0 ∧ R.commit tag = R.kept tag) := by
  have hf := h.full pk
  refine ⟨fun hn => ?_, fun hn => ?_⟩
  · rw [decide_eq_true hn] at hf
    unfold Rpg.cWhy Rpg.commit
    rw [hf]
    exact ⟨rfl, rfl⟩
  · rw [decide_eq_false hn] at hf
    unfold Rpg.cWhy Rpg.commit
    rw [hf]
    exact ⟨rfl, rfl⟩
/-- What stands in memory, between the acts. -/
structure PyS (w W : World) (pd gm n : Nat) (Z : Pz) (P : Pgr) (c : Int → List UInt8) (R : Rpg) (cs : Array Value) : Prop where
  px : Px w W Z P c
  bm : Blk W gm 35 cs
  rc : Rc R cs
  al : Al P c R
  hg : Z.h.g = pd
  pa : P.a = 1
  pn : P.n = n
  gm : w.heap.size ≤ gm
section
variable {w W W' : World} {pd gm n : Nat} {Z Z' : Pz} {P P' : Pgr} {c c' : Int → List UInt8} {R R' : Rpg} {cs cs' : Array Value}
theorem PyS.later (s : PyS w W pd gm n Z P c R cs) (h : Below W.heap.size W W') : PyS w W' pd gm n Z P c R cs := ⟨s.px.later h, s.bm.later h, s.rc, s.al, s.hg, s.pa, s.pn, s.gm⟩
theorem PyS.places (s : PyS w W pd gm n Z P c R cs) : R.places = (n : Int) := by rw [s.al.places, s.pn]
/-- A new box holds a document's pager. -/
theorem PyS.box (s : PyS w W pd gm n Z P c R cs) (es ds : Array Value) : PyS w ((W.alloc (.cells ds 35)).setRow W.heap.size es) pd gm n Z P c R cs ∧ Blk ((W.alloc (.cells ds 35)).setRow W.heap.size es) W.heap.size 35 es :=
  ⟨s.later (below_setRow ((Below.refl _ _).alloc (Nat.le_refl _) _) (Nat.le_refl _) es), (Blk.new W _ ds).setRow es⟩
/-- The act is done on the pager: the document's is still to be put. -/
structure PyB (w W : World) (pd gm n : Nat) (Z : Pz) (P : Pgr) (c : Int → List UInt8) (R : Rpg) (cs es : Array Value) : Prop where
  px : Px w W Z P c
  bm : Blk W gm 35 cs
  rc : Rc R es
  al : Al P c R
  hg : Z.h.g = pd
  pa : P.a = 1
  pn : P.n = n
  gm : w.heap.size ≤ gm
theorem PyB.later (s : PyB w W pd gm n Z P c R cs cs') (h : Below W.heap.size W W') : PyB w W' pd gm n Z P c R cs cs' := ⟨s.px.later h, s.bm.later h, s.rc, s.al, s.hg, s.pa, s.pn, s.gm⟩
theorem PyB.put (s : PyB w W pd gm n Z P c R cs cs') : PyS w (W.setRow gm cs') pd gm n Z P c R cs' := ⟨Px.row s.px s.bm (by decide) s.gm cs', s.bm.setRow cs', s.rc, s.al, s.hg, s.pa, s.pn, s.gm⟩
end

end Go.Proofs.YtildohndbeagaaaGreatDoor
