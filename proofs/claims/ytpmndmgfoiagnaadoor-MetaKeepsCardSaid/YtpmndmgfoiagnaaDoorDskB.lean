/- The disk in memory: which blocks it has, what a call may turn. -/
import Derived.Test.YtpmndmgfoiagnaaDoorDskA
namespace Go.Proofs.YtpmndmgfoiagnaaDoor
open Go Go.RowKit
set_option linter.unusedVariables false

/-- Only blocks of F have turned, and new ones were made. -/
structure Turn (F : Nat → Prop) (w w' : World) : Prop where
  os : w'.os = w.os
  tape : w'.tape = w.tape
  output : w'.output = w.output
  size : w.heap.size ≤ w'.heap.size
  block : ∀ b, b < w.heap.size → ¬ F b → w'.heap[b]? = w.heap[b]?
theorem Turn.refl (F : Nat → Prop) (w : World) : Turn F w w := ⟨rfl, rfl, rfl, Nat.le_refl _, fun _ _ _ => rfl⟩
theorem Turn.of_below {F : Nat → Prop} {w w' : World} (h : Below w.heap.size w w') : Turn F w w' := ⟨h.os, h.tape, h.output, h.size, fun b hb _ => h.block b hb⟩
theorem Turn.of_grown {F : Nat → Prop} {w w' : World} {row : Option Nat} (h : w.grownBy w' row) (hr : ∀ z, row = some z → F z) : Turn F w w' :=
  ⟨h.os, h.tape, h.output, h.size, fun b hb hF => h.block b hb (fun e => hF (hr b e.symm))⟩
theorem Turn.trans {F F' : Nat → Prop} {w w1 w2 : World} (h : Turn F w w1) (k : Turn F' w1 w2) (hF : ∀ b, F' b → F b ∨ w.heap.size ≤ b) : Turn F w w2 :=
  ⟨k.os.trans h.os, k.tape.trans h.tape, k.output.trans h.output, Nat.le_trans h.size k.size, fun b hb hn =>
    (k.block b (Nat.lt_of_lt_of_le hb h.size) (fun e => by rcases hF b e with h1 | h1; exact hn h1; omega)).trans (h.block b hb hn)⟩
theorem Turn.mono {F F' : Nat → Prop} {w w' : World} (h : Turn F w w') (hF : ∀ b, F b → b < w.heap.size → F' b) : Turn F' w w' := ⟨h.os, h.tape, h.output, h.size, fun b hb hn => h.block b hb (fun e => hn (hF b e hb))⟩
theorem Turn.below {F : Nat → Prop} {B : Nat} {w0 w w' : World} (h : Below B w0 w) (k : Turn F w w') (hB : B ≤ w.heap.size) (hF : ∀ b, F b → B ≤ b) : Below B w0 w' :=
  ⟨k.os.trans h.os, k.tape.trans h.tape, k.output.trans h.output, Nat.le_trans h.size k.size, fun b hb =>
    (k.block b (Nat.lt_of_lt_of_le hb hB) (fun e => by have := hF b e; omega)).trans (h.block b hb)⟩
theorem Turn.setCell {F : Nat → Prop} {w w' : World} (h : Turn F w w') {p : Addr} (hp : F p.block ∨ w.heap.size ≤ p.block) (u : Value) : Turn F w (w'.setCell p u) :=
  ⟨h.os, h.tape, h.output, by simpa using h.size, fun b hb hn => (Below.heap_setCell w' p u b (fun e => by subst e; rcases hp with h1 | h1; exact hn h1; omega)).trans (h.block b hb hn)⟩
theorem Turn.alloc {F : Nat → Prop} {w w' : World} (h : Turn F w w') (o : Obj) : Turn F w (w'.alloc o) :=
  h.trans (F' := fun _ => False) (Turn.of_below ((Below.refl _ _).alloc (Nat.le_refl _) o)) (fun _ h => h.elim)
theorem Turn.drew {F : Nat → Prop} {w w' : World} (h : Turn F w w') : Turn F w w'.drew := ⟨h.os, h.tape, h.output, h.size, h.block⟩
theorem Blk.turn {F : Nat → Prop} {w w' : World} {g : Nat} {t : TypeId} {cs : Array Value} (h : Blk w g t cs) (k : Turn F w w') (hF : ¬ F g) : Blk w' g t cs := (k.block g h.lt hF).trans h

/-- Where a disk lies: its own block, the two maps, the pending writes. -/
structure Zn where
  g : Nat
  bv : Nat
  bg : Nat
  pv : Value
def Zn.has (h : Zn) (b : Nat) : Prop := b = h.g ∨ b = h.bv ∨ b = h.bg ∨ h.pv.ownBlock = some b

/-- A pending write, as a function value. -/
def PnIs (w : World) (v : Value) : Pnd → Prop
  | .wr a b => ∃ ga gb A c, v = .func (Fn.func 68) #[] #[.pointer (some ⟨gb, 0, none⟩), .pointer (some ⟨ga, 0, none⟩)] ∧ Blk w ga 3 #[.int .i64 a] ∧ Blk w gb 75 #[.slice A b.length c] ∧ Ub w 0 (.slice A b.length c) b
  | .fr a => ∃ ga, v = .func (Fn.func 67) #[] #[.pointer (some ⟨ga, 0, none⟩)] ∧ Blk w ga 3 #[.int .i64 a]
def pnKinds : List TypeId := [3, 75, 5]
theorem PnIs.later {w w' : World} {v : Value} {p : Pnd} (h : PnIs w v p) (hb : Below w.heap.size w w') : PnIs w' v p := by
  cases p with
  | wr a b =>
    obtain ⟨ga, gb, A, c, h1, h2, h3, h4⟩ := h
    exact ⟨ga, gb, A, c, h1, h2.later hb, h3.later hb, h4.later hb⟩
  | fr a =>
    obtain ⟨ga, h1, h2⟩ := h
    exact ⟨ga, h1, h2.later hb⟩
theorem PnIs.other {w w' : World} {v : Value} {p : Pnd} (h : PnIs w v p) {z : Nat} (hz : ∀ t ∈ pnKinds, kindAt w z ≠ some (some t)) (hg : w.grownBy w' (some z)) : PnIs w' v p := by
  have key : ∀ {g : Nat} {t : TypeId} {cs : Array Value}, Blk w g t cs → t ∈ pnKinds → Blk w' g t cs := fun hb ht => hb.grown hg (fun e => by
    injection e with e
    subst e
    exact hz _ ht (kind_blk hb))
  cases p with
  | wr a b =>
    obtain ⟨ga, gb, A, c, h1, h2, h3, h4⟩ := h
    exact ⟨ga, gb, A, c, h1, key h2 (by simp [pnKinds]), key h3 (by simp [pnKinds]), h4.other (hz _ (by simp [pnKinds])) hg⟩
  | fr a =>
    obtain ⟨ga, h1, h2⟩ := h
    exact ⟨ga, h1, key h2 (by simp [pnKinds])⟩

/-- The pending writes, as the values vs. -/
def PnL (w : World) (vs : List Value) (ps : List Pnd) : Prop := vs.length = ps.length ∧ ∀ (i : Nat) v p, vs[i]? = some v → ps[i]? = some p → PnIs w v p
theorem PnL.keep {w w' : World} {vs : List Value} {ps : List Pnd} (h : PnL w vs ps) (hk : ∀ v p, PnIs w v p → PnIs w' v p) : PnL w' vs ps := ⟨h.1, fun i v p h1 h2 => hk v p (h.2 i v p h1 h2)⟩
theorem PnL.nil (w : World) : PnL w [] [] := ⟨rfl, fun i v p h => by simp at h⟩
theorem PnL.snoc {w : World} {vs : List Value} {ps : List Pnd} (h : PnL w vs ps) {v : Value} {p : Pnd} (hv : PnIs w v p) : PnL w (vs ++ [v]) (ps ++ [p]) := by
  refine ⟨by rw [List.length_append, List.length_append, h.1]; rfl, fun i u q h1 h2 => ?_⟩
  rcases Nat.lt_or_ge i vs.length with hi | hi
  · rw [List.getElem?_append_left hi] at h1
    rw [List.getElem?_append_left (by rw [← h.1]; exact hi)] at h2
    exact h.2 i u q h1 h2
  · rw [List.getElem?_append_right hi] at h1
    rw [List.getElem?_append_right (by rw [← h.1]; exact hi)] at h2
    rw [h.1] at h1
    rcases Nat.eq_zero_or_pos (i - ps.length) with h0 | h0
    · rw [h0] at h1 h2
      simp only [List.getElem?_cons_zero, Option.some.injEq] at h1 h2
      subst h1 h2
      exact hv
    · rw [List.getElem?_eq_none (by simp; omega)] at h1
      cases h1

/-- THE DISK D LIES AT h. -/
structure Dk (w : World) (h : Zn) (D : Dsk) : Prop where
  blk : Blk w h.g 65 #[.int .i64 D.size, .int .i64 D.limit, .map (some h.bv), .map (some h.bg), h.pv]
  view : Secs w h.bv D.view D.nv
  ground : Secs w h.bg D.ground D.ng
  ne : h.bv ≠ h.bg
  pend : ∃ vs, Ow 84 w 0 h.pv vs ∧ PnL w vs D.pend
theorem Dk.later {w w' : World} {h : Zn} {D : Dsk} (d : Dk w h D) (hb : Below w.heap.size w w') : Dk w' h D := by
  obtain ⟨vs, h1, h2⟩ := d.pend
  exact ⟨d.blk.later hb, d.view.later hb, d.ground.later hb, d.ne, vs, h1.later hb, h2.keep fun _ _ h => h.later hb⟩
/-- Of what kinds a disk's blocks are. -/
theorem Dk.kinds {w : World} {h : Zn} {D : Dsk} (d : Dk w h D) {b : Nat} (hb : h.has b) : kindAt w b = some (some 65) ∨ kindAt w b = some none ∨ kindAt w b = some (some 84) := by
  obtain ⟨vs, h1, _⟩ := d.pend
  rcases hb with rfl | rfl | rfl | hb
  · exact .inl (kind_blk d.blk)
  · exact .inr (.inl d.view.kind)
  · exact .inr (.inl d.ground.kind)
  · exact .inr (.inr (kind_own h1 hb))
theorem Dk.lt {w : World} {h : Zn} {D : Dsk} (d : Dk w h D) {b : Nat} (hb : h.has b) : b < w.heap.size := by
  obtain ⟨vs, h1, _⟩ := d.pend
  rcases hb with rfl | rfl | rfl | hb
  · exact d.blk.lt
  · exact d.view.lt
  · exact d.ground.lt
  · rcases h1.2 with ⟨h2, _⟩ | ⟨g, cap, cur, h2, _, hh, _⟩
    · rw [h2] at hb; cases hb
    · rw [h2] at hb
      simp only [Value.ownBlock, Option.some.injEq] at hb
      subst hb
      exact lt_of_block hh

/-- A call on the disk: the blocks that it has now are those of before, or new ones. -/
structure Stp (h : Zn) (w : World) (h' : Zn) (w' : World) : Prop where
  g : h'.g = h.g
  turn : Turn h.has w w'
  has : ∀ b, h'.has b → h.has b ∨ w.heap.size ≤ b
theorem Stp.refl (h : Zn) (w : World) : Stp h w h w := ⟨rfl, Turn.refl _ _, fun _ h => .inl h⟩
theorem Stp.below {h : Zn} {w w' : World} (hb : Below w.heap.size w w') : Stp h w h w' := ⟨rfl, Turn.of_below hb, fun _ h => .inl h⟩
theorem Stp.trans {h h1 h2 : Zn} {w w1 w2 : World} (a : Stp h w h1 w1) (b : Stp h1 w1 h2 w2) : Stp h w h2 w2 :=
  ⟨b.g.trans a.g, a.turn.trans b.turn a.has, fun x hx => by
    rcases b.has x hx with h3 | h3
    · exact a.has x h3
    · exact .inr (Nat.le_trans a.turn.size h3)⟩
/-- What lies in a block of another kind stays. -/
theorem Stp.blk {h h' : Zn} {w w' : World} {D : Dsk} (s : Stp h w h' w') (d : Dk w h D) {g : Nat} {t : TypeId} {cs : Array Value} (hb : Blk w g t cs) (h1 : t ≠ 65) (h2 : t ≠ 84) : Blk w' g t cs :=
  hb.turn s.turn fun e => by
    have hk := kind_blk hb
    rcases d.kinds e with h3 | h3 | h3
    · rw [hk] at h3; injection h3 with h3; injection h3 with h3; exact h1 h3
    · rw [hk] at h3; injection h3 with h3; cases h3
    · rw [hk] at h3; injection h3 with h3; injection h3 with h3; exact h2 h3
theorem Stp.ub {h h' : Zn} {w w' : World} {D : Dsk} (s : Stp h w h' w') (d : Dk w h D) {B : Nat} {v : Value} {l : List UInt8} (hb : Ub w B v l) : Ub w' B v l :=
  hb.keep fun b hb => s.turn.block b (by obtain ⟨_, cs, fz, hh⟩ := hb; exact lt_of_block hh) fun e => by
    have hk := kind_ub hb
    rcases d.kinds e with h3 | h3 | h3
    · rw [hk] at h3; revert h3; decide
    · rw [hk] at h3; injection h3 with h3; cases h3
    · rw [hk] at h3; revert h3; decide
end Go.Proofs.YtpmndmgfoiagnaaDoor
