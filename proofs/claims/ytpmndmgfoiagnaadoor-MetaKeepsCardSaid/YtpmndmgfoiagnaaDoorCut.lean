/- Cuts of slices of bytes; bytes of the call's own, read and stored. No program is named here. -/
import Derived.Test.YtpmndmgfoiagnaaDoorStr
import Derived.Laws.OwnMore
namespace Go.Proofs.YtpmndmgfoiagnaaDoor
open Go Go.RowKit
set_option linter.unusedVariables false

/-- A cut: the first k bytes. -/
theorem Bs.pre {S : Nat → Prop} {w : World} {l : List UInt8} {A : Option Addr} {c : Nat} (h : Bs S w (.slice A l.length c) l) {k : Nat} (hk : k ≤ l.length) : Bs S w (.slice A k c) (l.take k) := by
  obtain ⟨A', c', hv, h3, h4, h5, h6⟩ := h.at
  injection hv with hA _ hc
  subst hA hc
  have hl : (l.take k).length = k := by rw [List.length_take]; omega
  have := Bs.mk_ (S := S) (w := w) (l := l.take k) (A := A) (c := c) (by omega) h4 h5 fun hn => by
    obtain ⟨b, o, hA, hS, hcell⟩ := h6 (by omega)
    refine ⟨b, o, hA, hS, fun j hj => ?_⟩
    rw [hcell j (by omega), List.getElem_take]
  rwa [hl] at this

theorem bv_set (l : List UInt8) (j : Nat) (b : UInt8) : bv (l.set j b) = (bv l).set j (.int .u8 (b.toNat : Int)) := by simp [bv, List.map_set]
/-- One byte of the call's own is stored anew. -/
theorem Ob.store {e : TypeId} {w : World} {B g k c : Nat} {l : List UInt8} (h : Ob e w B (.slice (some ⟨g, 0, none⟩) k c) l) (j : Nat) (b : UInt8) :
    Ob e (w.setCell ⟨g, j, none⟩ (.int .u8 (b.toNat : Int))) B (.slice (some ⟨g, 0, none⟩) k c) (l.set j b) := by
  have hk := h.len
  subst hk
  unfold Ob
  rw [bv_set, List.length_set]
  exact (World.ownsRow.stored h j _).1
theorem Ob.at {e : TypeId} {w : World} {B g k c : Nat} {l : List UInt8} (h : Ob e w B (.slice (some ⟨g, 0, none⟩) k c) l) {j : Nat} (hj : j < l.length) : w.cell? ⟨g, j, none⟩ = some (.int .u8 (l[j].toNat : Int)) := by
  have hk := h.len
  subst hk
  rw [World.ownsRow.cellAt h j (by omega)]
  exact bv_at hj
theorem Ob.free {e : TypeId} {w : World} {B g k c : Nat} {l : List UInt8} (h : Ob e w B (.slice (some ⟨g, 0, none⟩) k c) l) (j : Nat) : w.frozen? ⟨g, j, none⟩ = false := by
  have hk := h.len
  subst hk
  exact World.ownsRow.frozenAt h j
theorem Ob.head {e : TypeId} {w : World} {B k c : Nat} {A : Option Addr} {l : List UInt8} (h : Ob e w B (.slice A k c) l) (hl : 0 < l.length) : ∃ g, A = some ⟨g, 0, none⟩ ∧ B ≤ g := by
  rcases h.2 with ⟨h1, h2⟩ | ⟨g, cap, cur, hv, hb, _⟩
  · omega
  · injection hv with h1 _ _
    exact ⟨g, h1, hb⟩

end Go.Proofs.YtpmndmgfoiagnaaDoor
