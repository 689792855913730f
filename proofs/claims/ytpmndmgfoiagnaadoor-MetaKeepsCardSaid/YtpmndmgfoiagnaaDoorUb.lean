/- Bytes that lie in blocks of bytes from B on (at whatever place in the block). -/
import Derived.Test.YtpmndmgfoiagnaaDoorCut
import Derived.Test.YtpmndmgfoiagnaaDoorTy
namespace Go.Proofs.YtpmndmgfoiagnaaDoor
open Go Go.RowKit
set_option linter.unusedVariables false

/-- Block b is one of bytes, from B on. -/
def UbS (w : World) (B b : Nat) : Prop := B ≤ b ∧ ∃ cs fz, w.heap[b]? = some (.cells cs 5 fz)
/-- The slice value v reads as l, in blocks of bytes from B on. -/
def Ub (w : World) (B : Nat) (v : Value) (l : List UInt8) : Prop := Bs (UbS w B) w v l
theorem Ub.of_own {w : World} {B : Nat} {v : Value} {l : List UInt8} (h : Ob 5 w B v l) : Ub w B v l := by
  have hs := h.bs
  rcases h.2 with ⟨rfl, hn⟩ | ⟨g, cap, cur, rfl, hB, hh, _⟩
  · obtain ⟨h1, A, c, h2, h3, h4, h5, h6⟩ := hs
    exact ⟨h1, A, c, h2, h3, h4, h5, fun hl => by omega⟩
  · obtain ⟨h1, A, c, h2, h3, h4, h5, h6⟩ := hs
    refine ⟨h1, A, c, h2, h3, h4, h5, fun hl => ?_⟩
    obtain ⟨b, o, hA, _, hc⟩ := h6 hl
    injection h2 with hA2
    rw [hA] at hA2
    injection hA2 with hA2
    injection hA2 with hb
    subst hb
    exact ⟨g, o, hA, ⟨hB, _, _, hh⟩, hc⟩
theorem Ub.bs {w : World} {B : Nat} {v : Value} {l : List UInt8} (h : Ub w B v l) : Bs (fun _ => True) w v l := Sl.more h fun _ _ => trivial
theorem Ub.len {w : World} {B : Nat} {A : Option Addr} {k c : Nat} {l : List UInt8} (h : Ub w B (.slice A k c) l) : k = l.length := by
  obtain ⟨_, A', c', hv, _⟩ := h
  injection hv
theorem Ub.keep {w w' : World} {B : Nat} {v : Value} {l : List UInt8} (h : Ub w B v l) (hk : ∀ b, UbS w B b → w'.heap[b]? = w.heap[b]?) : Ub w' B v l := by
  obtain ⟨h1, A, c, h2, h3, h4, h5, h6⟩ := h
  refine ⟨h1, A, c, h2, h3, h4, h5, fun hl => ?_⟩
  obtain ⟨b, o, hA, hs, hc⟩ := h6 hl
  have hb := hk b hs
  obtain ⟨hB, cs, fz, hh⟩ := hs
  refine ⟨b, o, hA, ⟨hB, cs, fz, hb.trans hh⟩, fun j u hu => ?_⟩
  rw [World.cell?_of_block (a := ⟨b, o + j, none⟩) hb]
  exact hc j u hu
theorem Ub.later {w w' : World} {B : Nat} {v : Value} {l : List UInt8} (h : Ub w B v l) (hb : Below w.heap.size w w') : Ub w' B v l :=
  h.keep fun b ⟨_, cs, fz, hh⟩ => hb.block b (lt_of_block hh)
theorem Ub.lower {w : World} {B B' : Nat} {v : Value} {l : List UInt8} (h : Ub w B v l) (hB : B' ≤ B) : Ub w B' v l := Sl.more h fun b ⟨h1, h2⟩ => ⟨Nat.le_trans hB h1, h2⟩
/-- A block of another type is written, and new ones made. -/
theorem Ub.beside {w w' : World} {B : Nat} {v : Value} {l : List UInt8} (h : Ub w B v l) {g : Nat} {t : TypeId} {cs : Array Value} (hb : Blk w g t cs) (hne : 5 ≠ t) (hg : w.grownBy w' (some g)) : Ub w' B v l :=
  h.keep fun b ⟨_, cs', fz, hh⟩ => hg.block b (lt_of_block hh) (fun e => by
    injection e with e
    subst e
    unfold Blk at hb
    rw [hh] at hb
    injection hb with hb
    injection hb with _ hb
    exact hne hb)
end Go.Proofs.YtpmndmgfoiagnaaDoor
