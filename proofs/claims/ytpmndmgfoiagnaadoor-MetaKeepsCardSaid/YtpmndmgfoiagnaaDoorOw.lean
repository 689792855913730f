/- Slices of one-cell elements that the call owns, as lists of values. No program is named here. -/
import Derived.Test.YtpmndmgfoiagnaaDoorCut
namespace Go.Proofs.YtpmndmgfoiagnaaDoor
open Go Go.RowKit
set_option linter.unusedVariables false

/-- The slice value v owns the values xs, of element type e, in a block from B on. -/
def Ow (e : TypeId) (w : World) (B : Nat) (v : Value) (xs : List Value) : Prop := w.ownsRow B e 1 v xs.length xs
section
variable {e : TypeId} {w w' : World} {B : Nat} {v : Value} {xs : List Value}
theorem Ow.made (e : TypeId) (w : World) (B : Nat) (hB : B ≤ w.heap.size) {g : Nat} (hg : g = w.heap.size) : Ow e (w.alloc (.cells #[] e)) B (.slice (some ⟨g, 0, none⟩) 0 0) [] := by
  subst hg
  exact World.ownsRow_made w #[] 0 hB (by simp [maxLen]) (by simp)
theorem Ow.nil (e : TypeId) (w : World) (B : Nat) : Ow e w B (.slice none 0 0) [] := World.ownsRow_nil w B e 1
theorem Ow.lower {B' : Nat} (h : Ow e w B v xs) (hB : B' ≤ B) : Ow e w B' v xs := by
  obtain ⟨h1, h2⟩ := h
  refine ⟨h1, ?_⟩
  rcases h2 with h2 | ⟨g, cap, cur, hv, hg, r⟩
  · exact .inl h2
  · exact .inr ⟨g, cap, cur, hv, Nat.le_trans hB hg, r⟩
theorem Ow.later (h : Ow e w B v xs) (hb : Below w.heap.size w w') : Ow e w' B v xs := by
  obtain ⟨h1, h2⟩ := h
  refine ⟨h1, ?_⟩
  rcases h2 with h2 | ⟨g, cap, cur, hv, hg, hh, r⟩
  · exact .inl h2
  · exact .inr ⟨g, cap, cur, hv, hg, (hb.block g (lt_of_block hh)).trans hh, r⟩
/-- A block of another type was written, and new ones made. -/
theorem Ow.beside (h : Ow e w B v xs) {g' : Nat} {t : TypeId} {cs : Array Value} (hb : Blk w g' t cs) (hne : e ≠ t) (hg : w.grownBy w' (some g')) : Ow e w' B v xs := by
  have hn := own_ne h hb hne
  obtain ⟨h1, h2⟩ := h
  refine ⟨h1, ?_⟩
  rcases h2 with h2 | ⟨g, cap, cur, hv, hB, hh, r⟩
  · exact .inl h2
  · refine .inr ⟨g, cap, cur, hv, hB, ?_, r⟩
    exact (hg.block g (lt_of_block hh) (fun e => hn (by rw [hv]; simp [Value.ownBlock]; injection e))).trans hh
theorem Ow.sl (h : Ow e w B v xs) : Sl (fun b => B ≤ b ∧ b < w.heap.size) w 1 v xs.length xs := Sl.of_own (by omega) h
/-- What the slice is, where it is not empty. -/
theorem Ow.open (h : Ow e w B v xs) (hl : 0 < xs.length) : ∃ g c, v = .slice (some ⟨g, 0, none⟩) xs.length c ∧ B ≤ g ∧ g < w.heap.size ∧ (∀ j (hj : j < xs.length), w.cell? ⟨g, j, none⟩ = some xs[j]) ∧ ∀ j, w.frozen? ⟨g, j, none⟩ = false := by
  have h0 := h
  rcases h.2 with ⟨_, h2⟩ | ⟨g, cap, cur, rfl, hb, hh, _⟩
  · omega
  · refine ⟨g, cap, rfl, hb, lt_of_block hh, fun j hj => ?_, fun j => World.ownsRow.frozenAt h0 j⟩
    rw [World.ownsRow.cellAt h0 j (by omega), List.getElem?_eq_getElem hj]
/-- What it is in any case. -/
theorem Ow.shape (h : Ow e w B v xs) : ∃ A c, v = .slice A xs.length c ∧ (0 < xs.length → ∃ g, A = some ⟨g, 0, none⟩ ∧ B ≤ g ∧ g < w.heap.size ∧ ∀ j (hj : j < xs.length), w.cell? ⟨g, j, none⟩ = some xs[j]) := by
  obtain ⟨A, k, c, rfl⟩ := own_slice h
  obtain rfl := own_len h
  refine ⟨A, c, rfl, fun hl => ?_⟩
  obtain ⟨g, c', hv, hB, hlt, hc, _⟩ := h.open hl
  injection hv with hA
  exact ⟨g, hA, hB, hlt, hc⟩
/-- One element is stored anew. -/
theorem Ow.store {g k c : Nat} (h : Ow e w B (.slice (some ⟨g, 0, none⟩) k c) xs) (j : Nat) (u : Value) : Ow e (w.setCell ⟨g, j, none⟩ u) B (.slice (some ⟨g, 0, none⟩) k c) (xs.set j u) := by
  have hk := own_len h
  subst hk
  unfold Ow
  rw [List.length_set]
  exact (World.ownsRow.stored h j u).1
end

/-- Flags as values; pages as values. -/
def bl (l : List Bool) : List Value := l.map .bool
def il (l : List Nat) : List Value := l.map fun (n : Nat) => Value.int .i64 (n : Int)
theorem bl_len (l : List Bool) : (bl l).length = l.length := by simp [bl]
theorem il_len (l : List Nat) : (il l).length = l.length := by simp [il]
theorem bl_one (l : List Bool) : ∀ u ∈ bl l, u.oneCell' = true := by
  intro u hu
  obtain ⟨_, _, rfl⟩ := List.mem_map.1 hu
  rfl
theorem il_one (l : List Nat) : ∀ u ∈ il l, u.oneCell' = true := by
  intro u hu
  obtain ⟨_, _, rfl⟩ := List.mem_map.1 hu
  rfl
theorem bl_set (l : List Bool) (j : Nat) (b : Bool) : (bl l).set j (.bool b) = bl (l.set j b) := by simp [bl, List.map_set]
theorem bl_at {l : List Bool} {j : Nat} (h : j < (bl l).length) : (bl l)[j] = .bool (l.getD j false) := by
  have : j < l.length := by simpa [bl] using h
  simp [bl, List.getD_eq_getElem?_getD, this]
theorem il_at {l : List Nat} {j : Nat} (h : j < (il l).length) : (il l)[j] = .int .i64 (l.getD j 0 : Nat) := by
  have : j < l.length := by simpa [il] using h
  simp [il, List.getD_eq_getElem?_getD, this]
end Go.Proofs.YtpmndmgfoiagnaaDoor
