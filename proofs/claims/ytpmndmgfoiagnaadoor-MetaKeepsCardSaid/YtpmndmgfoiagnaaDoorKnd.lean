/- Of what kind a block is; slices that lie in blocks of one kind. No program is named here. -/
import Derived.Test.YtpmndmgfoiagnaaDoorOw
namespace Go.Proofs.YtpmndmgfoiagnaaDoor
open Go Go.RowKit
set_option linter.unusedVariables false

/-- What kind of block it is: cells of a type, or a map. -/
def kindAt (w : World) (b : Nat) : Option (Option TypeId) := match w.heap[b]? with
  | some (.cells _ t _) => some (some t)
  | some (.map _ _) => some none
  | _ => none
theorem kind_blk {w : World} {g : Nat} {t : TypeId} {cs : Array Value} (h : Blk w g t cs) : kindAt w g = some (some t) := by unfold Blk at h; unfold kindAt; rw [h]
theorem kind_own {w : World} {base : Nat} {e : TypeId} {size n : Nat} {v : Value} {xs : List Value} (h : w.ownsRow base e size v n xs) {b : Nat} (hb : v.ownBlock = some b) : kindAt w b = some (some e) := by
  rcases h.2 with ⟨rfl, _⟩ | ⟨g, cap, cur, rfl, _, hh, _⟩
  · cases hb
  · simp only [Value.ownBlock, Option.some.injEq] at hb
    subst hb
    unfold kindAt
    rw [hh]

theorem kind_lt {w : World} {b : Nat} {t : Option TypeId} (h : kindAt w b = some t) : b < w.heap.size := by
  rcases Nat.lt_or_ge b w.heap.size with h1 | h1
  · exact h1
  · unfold kindAt at h
    rw [Array.getElem?_eq_none h1] at h
    cases h
theorem kind_new (w : World) (t : TypeId) (cs : Array Value) : kindAt (w.alloc (.cells cs t)) w.heap.size = some (some t) := kind_blk (Blk.new w t cs)
theorem kind_of {w w' : World} {b : Nat} {t : Option TypeId} (h : w'.heap[b]? = w.heap[b]?) (hk : kindAt w b = some t) : kindAt w' b = some t := by unfold kindAt at hk ⊢; rw [h]; exact hk
/-- The slice value v reads as the cells xs, n elements of size cells, in a block of kind e. -/
def KSl (e : TypeId) (size : Nat) (w : World) (v : Value) (n : Nat) (xs : List Value) : Prop := Sl (fun b => kindAt w b = some (some e)) w size v n xs
section
variable {e : TypeId} {size n : Nat} {w w' : World} {v : Value} {xs : List Value}
theorem KSl.nil : KSl e size w (.slice none 0 0) 0 [] := Sl.nil
theorem KSl.keep (h : KSl e size w v n xs) (hk : ∀ b, kindAt w b = some (some e) → w'.heap[b]? = w.heap[b]?) : KSl e size w' v n xs := by
  obtain ⟨h1, A, c, h2, h3, h4, h5, h6⟩ := h
  refine ⟨h1, A, c, h2, h3, h4, h5, fun hl => ?_⟩
  obtain ⟨b, o, hA, hs, hc⟩ := h6 hl
  have hb := hk b hs
  refine ⟨b, o, hA, kind_of hb hs, fun j u hu => ?_⟩
  rw [World.cell?_of_block (a := ⟨b, o + j, none⟩) hb]
  exact hc j u hu
theorem KSl.later (h : KSl e size w v n xs) (hb : Below w.heap.size w w') : KSl e size w' v n xs := h.keep fun b hk => hb.block b (kind_lt hk)
theorem KSl.drewN (h : KSl e size w v n xs) (k : Nat) : KSl e size (w.drewN k) v n xs := h.later (below_drewN (Below.refl _ _) _)
/-- Only a block of another kind turned. -/
theorem KSl.other (h : KSl e size w v n xs) {z : Nat} (hz : kindAt w z ≠ some (some e)) (hg : w.grownBy w' (some z)) : KSl e size w' v n xs :=
  h.keep fun b hb => hg.block b (kind_lt hb) (fun e => by injection e with e; subst e; exact hz hb)
theorem KSl.setCell (h : KSl e size w v n xs) {p : Addr} (hp : kindAt w p.block ≠ some (some e)) (u : Value) : KSl e size (w.setCell p u) v n xs :=
  h.keep fun b hb => Below.heap_setCell w p u b (fun e => by subst e; exact hp hb)
theorem KSl.of_own {base : Nat} (hsz : 0 < size) (h : w.ownsRow base e size v n xs) : KSl e size w v n xs := by
  have hs := Sl.of_own hsz h
  rcases h.2 with ⟨rfl, hn⟩ | ⟨g, cap, cur, rfl, hB, hh, _⟩
  · obtain ⟨h1, A, c, h2, h3, h4, h5, h6⟩ := hs
    exact ⟨h1, A, c, h2, h3, h4, h5, fun hl => by omega⟩
  · obtain ⟨h1, A, c, h2, h3, h4, h5, h6⟩ := hs
    refine ⟨h1, A, c, h2, h3, h4, h5, fun hl => ?_⟩
    obtain ⟨b, o, hA, _, hc⟩ := h6 hl
    injection h2 with hA2
    rw [hA] at hA2
    injection hA2 with hA2
    injection hA2 with hb
    subst hb
    exact ⟨g, o, hA, kind_blk (t := e) (cs := cur) hh, hc⟩
theorem KSl.lt (h : KSl e size w v n xs) : Sl (fun b => b < w.heap.size) w size v n xs := Sl.more h fun _ hk => kind_lt hk
theorem KSl.new (w : World) (e : TypeId) (size : Nat) (hsz : 0 < size) (cs : Array Value) (n : Nat) (hn : 0 < n) (hm : n ≤ maxLen) (hc : cs.size = n * size) {g : Nat} (hg : g = w.heap.size) :
    KSl e size (w.alloc (.cells cs e)) (.slice (some ⟨g, 0, none⟩) n n) n cs.toList := by
  subst hg
  refine ⟨by simpa using hc, _, n, rfl, Nat.le_refl _, hm, (fun h => by cases h), fun _ => ⟨_, 0, rfl, kind_new _ _ _, fun j u hu => ?_⟩⟩
  rw [World.cell?_alloc_new, Nat.zero_add]
  simpa using hu
end
end Go.Proofs.YtpmndmgfoiagnaaDoor
