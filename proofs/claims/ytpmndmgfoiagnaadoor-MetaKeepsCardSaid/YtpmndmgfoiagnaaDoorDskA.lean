/- The disk in memory: its blocks, what may turn, what stays. -/
import Derived.Test.YtpmndmgfoiagnaaDoorDskQ
import Derived.Test.YtpmndmgfoiagnaaDoorUb
import Derived.Test.YtpmndmgfoiagnaaDoorOw
import Derived.Test.YtpmndmgfoiagnaaDoorGrowB
import Derived.Test.YtpmndmgfoiagnaaDoorKnd
namespace Go.Proofs.YtpmndmgfoiagnaaDoor
open Go Go.RowKit
set_option linter.unusedVariables false

theorem intTy : Tryd.prog.underlying 3 = some (.int .i64) := Tryd.underlying3
theorem secTy : Tryd.prog.underlying 62 = some (.map 3 75) := Tryd.underlying62
theorem nilBytes (w : World) : (zeroValue 75).run Tryd.prog w = .ok (.slice none 0 0) w := by kernel_rfl

theorem kind_map {P : Program} {k : TypeId} {w : World} {b n : Nat} {f : Int → Option Value} (h : MpV P k w b f n) : kindAt w b = some none := by
  obtain ⟨es, c, hb⟩ := h.isMap
  unfold kindAt
  rw [hb]
theorem kind_ub {w : World} {B b : Nat} (h : UbS w B b) : kindAt w b = some (some 5) := by
  obtain ⟨_, cs, fz, hh⟩ := h
  unfold kindAt
  rw [hh]

/-- Bytes stay where only a block of another kind turned. -/
theorem Ub.other {w w' : World} {B : Nat} {v : Value} {l : List UInt8} (h : Ub w B v l) {z : Nat} (hz : kindAt w z ≠ some (some 5)) (hg : w.grownBy w' (some z)) : Ub w' B v l :=
  h.keep fun b hb => hg.block b (by obtain ⟨_, cs, fz, hh⟩ := hb; exact lt_of_block hh) (fun e => by
    injection e with e
    subst e
    exact hz (kind_ub hb))
theorem MpV.other {P : Program} {k : TypeId} {w w' : World} {b n : Nat} {f : Int → Option Value} (h : MpV P k w b f n) {z : Nat} (hz : b ≠ z) (hg : w.grownBy w' (some z)) : MpV P k w' b f n :=
  h.at (hg.block b h.lt (fun e => hz (by injection e)))
theorem Ow.other {e : TypeId} {w w' : World} {B : Nat} {v : Value} {xs : List Value} (h : Ow e w B v xs) {z : Nat} (hz : v.ownBlock ≠ some z) (hg : w.grownBy w' (some z)) : Ow e w' B v xs := by
  obtain ⟨h1, h2⟩ := h
  refine ⟨h1, ?_⟩
  rcases h2 with h2 | ⟨g, cap, cur, hv, hB, hh, r⟩
  · exact .inl h2
  · refine .inr ⟨g, cap, cur, hv, hB, ?_, r⟩
    exact (hg.block g (lt_of_block hh) (fun e => hz (by rw [hv]; exact e))).trans hh

/-! ### Sectors in a map -/
def SecV (w : World) (v : Option Value) (l : Option (List UInt8)) : Prop := match v, l with
  | none, none => True
  | some v, some l => Ub w 0 v l
  | _, _ => False
def Secs (w : World) (b : Nat) (f : SF) (n : Nat) : Prop := ∃ m, MpV Tryd.prog 3 w b m n ∧ ∀ a, InI a → SecV w (m a) (f a)
theorem SecV.keep {w w' : World} {v : Option Value} {l : Option (List UInt8)} (h : SecV w v l) (hk : ∀ v l, Ub w 0 v l → Ub w' 0 v l) : SecV w' v l := by
  unfold SecV at h ⊢
  cases v <;> cases l <;> simp_all
theorem SecV.some_iff {w : World} {v : Option Value} {l : Option (List UInt8)} (h : SecV w v l) : v.isSome = l.isSome := by
  unfold SecV at h
  cases v <;> cases l <;> simp_all
theorem Secs.later {w w' : World} {b n : Nat} {f : SF} (h : Secs w b f n) (hb : Below w.heap.size w w') : Secs w' b f n := by
  obtain ⟨m, h1, h2⟩ := h
  exact ⟨m, h1.later hb, fun a ha => (h2 a ha).keep fun _ _ h => h.later hb⟩
theorem Secs.other {w w' : World} {b n : Nat} {f : SF} (h : Secs w b f n) {z : Nat} (hz : b ≠ z) (hz2 : kindAt w z ≠ some (some 5)) (hg : w.grownBy w' (some z)) : Secs w' b f n := by
  obtain ⟨m, h1, h2⟩ := h
  exact ⟨m, h1.other hz hg, fun a ha => (h2 a ha).keep fun _ _ h => h.other hz2 hg⟩
theorem Secs.kind {w : World} {b n : Nat} {f : SF} (h : Secs w b f n) : kindAt w b = some none := by
  obtain ⟨m, h1, _⟩ := h
  exact kind_map h1
theorem Secs.lt {w : World} {b n : Nat} {f : SF} (h : Secs w b f n) : b < w.heap.size := by
  obtain ⟨m, h1, _⟩ := h
  exact h1.lt
/-- A new map of sectors. -/
theorem Secs.made (w : World) : Secs (w.alloc (.map #[] 0)) w.heap.size (fun _ => none) 0 := ⟨_, MpV.made _ _ w, fun _ _ => trivial⟩
end Go.Proofs.YtpmndmgfoiagnaaDoor
