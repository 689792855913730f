/- What the proof of PagerLeast needs, part 14. -/
import Derived.Test.YtildohndbeagaaaGreatDoorPagerLeastJ10
import Derived.Test.YtildohndbeagaaaGreatDoorPagerLeastJ11
import Derived.Test.YtildohndbeagaaaGreatDoorPagerLeastJ13
import Derived.Lib.SlKeysI

namespace Go.Proofs.YtildohndbeagaaaGreatDoor
open Go Go.RowKit
set_option linter.unusedVariables false

/-- An int's number (the library has another function of this name). -/
def intOf : Value → Int | .int _ q => q | _ => 0
theorem tbTy : Tryz.prog.underlying 77 = some (.map 3 108) := Tryz.underlying77
theorem wrTy : Tryz.prog.underlying 71 = some (.map 3 68) := Tryz.underlying71
theorem gnTy : Tryz.prog.underlying 78 = some (.map 3 3) := Tryz.underlying78
theorem zeroPl (w : World) : (zeroValue 108).run Tryz.prog w = .ok (.agg #[.int .i64 0, .int .i64 0]) w := by kernel_rfl
theorem zeroIn (w : World) : (zeroValue 3).run Tryz.prog w = .ok (.int .i64 0) w := by kernel_rfl

/-! ### Maps with pages for keys -/
theorem ids_sorted (l : List Nat) (h : l.Pairwise (· < ·)) {L : List Int} (hp : (l.map fun i : Nat => (i : Int)).Perm L) : L.mergeSort (fun x y => decide (x ≤ y)) = l.map fun i : Nat => (i : Int) := by
  rw [← mergeSort_of_perm_i hp]
  refine List.mergeSort_of_pairwise ?_
  rw [List.pairwise_map]
  exact h.imp fun h => by simp; omega
theorem MpV.ids {P : Program} {k : TypeId} {w : World} {b n : Nat} {f : Int → Option Value} {α : Type} {g : Int → Option α} (hk : P.underlying k = some (.int .i64)) (h : MpV P k w b f n) (hfg : ∀ x, InI x → (f x).isSome = (g x).isSome) (h90 : In90 g) :
    n = (idsOf g).length ∧ ∃ D, w.ownsMap P k heldR b n D ∧ ((idsOf g).map fun i : Nat => (i : Int)).Perm (intKeys D) ∧ Maps.size D = n := by
  obtain ⟨D, h1, h2, h3⟩ := h
  have hperm : ((idsOf g).map fun i : Nat => (i : Int)).Perm (intKeys D) := by
    obtain ⟨es, hD, hpw, _⟩ := h1.entries (Maps.int_keyed hk)
    obtain ⟨es', hD', hko⟩ := h1.keysOf
    obtain rfl : es = es' := by rw [hD] at hD'; simpa using hD'
    have hwf := intKeys_wf h1 hk
    subst hD
    have hkk : ∀ p ∈ es, ∃ x, p.1 = .int .i64 x := fun p hp => by obtain ⟨v, hv⟩ := hko p hp; obtain ⟨x, _, hx, _⟩ := Maps.keyOf_i64 hk hv; exact ⟨x, hx⟩
    refine perm_intKeys hpw hkk (List.Pairwise.imp (fun h => by omega) (List.pairwise_map.2 ((ids_lt g).imp fun (h : _ < _) => (by omega : ((_ : Nat) : Int) < ((_ : Nat) : Int))))) fun x => ?_
    by_cases hx : InI x
    · rw [(h3 x hx).1, hfg x hx, List.mem_map]
      constructor
      · rintro ⟨i, hi, rfl⟩
        exact (mem_ids.1 hi).2
      · intro hs
        have := h90 x hs
        exact ⟨x.toNat, mem_ids.2 ⟨by omega, by rw [show ((x.toNat : Nat) : Int) = x by omega]; exact hs⟩, by omega⟩
    · constructor
      · intro hm
        obtain ⟨i, hi, rfl⟩ := List.mem_map.1 hm
        have := (mem_ids.1 hi).1
        exact absurd (by unfold InI; omega) hx
      · intro hs
        rw [Maps.has_eq, List.any_eq_true] at hs
        obtain ⟨p, hp, hs⟩ := hs
        have h6 := WideAt.sameKey_eq hs
        refine absurd (InI.of (hwf x (List.mem_map.2 ⟨p, hp, ?_⟩))) hx
        rw [h6]; rfl
  refine ⟨?_, D, h1, hperm, h2⟩
  have h4 := hperm.length_eq
  rw [List.length_map] at h4
  rw [h4, ← h2]
  obtain ⟨es, rfl⟩ := h1.isMap
  simp [intKeys, Maps.size]

def plV (x : Nat × Nat) : Value := .agg #[.int .i64 (x.1 : Int), .int .i64 (x.2 : Int)]
def tbV (t : TF) : Int → Option Value := fun a => (t a).map plV
def gnV (g : Int → Bool) : Int → Option Value := fun a => if g a then some (.int .i64 a) else none
structure Tbl (w : World) (b : Nat) (t : TF) : Prop where
  in90 : In90 t
  mp : MpV Tryz.prog 3 w b (tbV t) (idsOf t).length
structure Wrt (w : World) (b : Nat) (f : SF) : Prop where
  in90 : In90 f
  mp : Secs w b f (idsOf f).length
structure Gon (w : World) (b : Nat) (g : Int → Bool) : Prop where
  in90 : In90 (gnV g)
  mp : MpV Tryz.prog 3 w b (gnV g) (idsOf (gnV g)).length
theorem tbV_some (t : TF) (x : Int) : (tbV t x).isSome = (t x).isSome := by unfold tbV; cases t x <;> rfl
theorem tbV_get (t : TF) (x : Int) : (tbV t x).getD (.agg #[.int .i64 0, .int .i64 0]) = plV ((t x).getD (0, 0)) := by unfold tbV; cases t x <;> rfl
theorem gnV_some (g : Int → Bool) (x : Int) : (gnV g x).isSome = g x := by unfold gnV; cases g x <;> rfl
theorem ids_none {α : Type} : (idsOf (fun _ => (none : Option α))).length = 0 := by
  have : idsOf (fun _ => (none : Option α)) = [] := by unfold idsOf; simp
  rw [this]; rfl
section
variable {w w' : World} {b : Nat} {t : TF} {f : SF} {g : Int → Bool}
theorem Tbl.made (w : World) : Tbl (w.alloc (.map #[] 0)) w.heap.size (fun _ => none) := ⟨fun x h => (by cases h), by rw [ids_none]; exact MpV.made _ _ w⟩
theorem Wrt.made (w : World) : Wrt (w.alloc (.map #[] 0)) w.heap.size (fun _ => none) := ⟨fun x h => (by cases h), by rw [ids_none]; exact Secs.made w⟩
theorem gnV_no : gnV (fun _ => false) = fun _ => none := by funext a; rfl
theorem Gon.made (w : World) : Gon (w.alloc (.map #[] 0)) w.heap.size (fun _ => false) := by
  refine ⟨?_, ?_⟩ <;> rw [gnV_no]
  · exact fun x h => (by cases h)
  · rw [ids_none]; exact MpV.made _ _ w
theorem Tbl.at (h : Tbl w b t) (hb : w'.heap[b]? = w.heap[b]?) : Tbl w' b t := ⟨h.in90, h.mp.at hb⟩
theorem Gon.at (h : Gon w b g) (hb : w'.heap[b]? = w.heap[b]?) : Gon w' b g := ⟨h.in90, h.mp.at hb⟩
theorem Tbl.later (h : Tbl w b t) (hb : Below w.heap.size w w') : Tbl w' b t := ⟨h.in90, h.mp.later hb⟩
theorem Wrt.later (h : Wrt w b f) (hb : Below w.heap.size w w') : Wrt w' b f := ⟨h.in90, h.mp.later hb⟩
theorem Gon.later (h : Gon w b g) (hb : Below w.heap.size w w') : Gon w' b g := ⟨h.in90, h.mp.later hb⟩
theorem Tbl.lt (h : Tbl w b t) : b < w.heap.size := h.mp.lt
theorem Wrt.lt (h : Wrt w b f) : b < w.heap.size := h.mp.lt
theorem Gon.lt (h : Gon w b g) : b < w.heap.size := h.mp.lt
theorem Tbl.kind (h : Tbl w b t) : kindAt w b = some none := kind_map h.mp
theorem Wrt.kind (h : Wrt w b f) : kindAt w b = some none := h.mp.kind
theorem Gon.kind (h : Gon w b g) : kindAt w b = some none := kind_map h.mp
theorem ids90 {α : Type} (f : Int → Option α) : (idsOf f).length < maxLen := by have := ids_le f; unfold maxLen; omega
theorem in90_i {x : Int} (h0 : 0 ≤ x) (h1 : x < 90) : InI x := by unfold InI; omega
/-- 'table[a] = place'. -/
theorem Tbl.put (h : Tbl w b t) {a : Int} (h0 : 0 ≤ a) (h1 : a < 90) (x : Nat × Nat) :
    ∃ w', (Instr.mapUpdate 77 (.map (some b)) (.int .i64 a) (.agg #[.int .i64 (x.1 : Int), .int .i64 (x.2 : Int)])).run Tryz.prog w = .ok () w' ∧ Tbl w' b (t.put a x) ∧ w.mapTurned w' b := by
  obtain ⟨w', h3, h4, h5⟩ := h.mp.put intTy tbTy (ids90 _) (in90_i h0 h1) (.agg #[.int .i64 (x.1 : Int), .int .i64 (x.2 : Int)])
  have e : (fun y => if y = a then some (Value.agg #[.int .i64 (x.1 : Int), .int .i64 (x.2 : Int)]) else tbV t y) = tbV (t.put a x) := by
    funext y
    unfold tbV TF.put
    by_cases hy : y = a
    · simp only [hy, if_true]; rfl
    · simp only [hy, if_false]
  have h90 : In90 (t.put a x) := fun y hy => by
    unfold TF.put at hy
    split at hy
    · omega
    · exact h.in90 y hy
  rw [e] at h4
  have h6 := (h4.ids intTy (g := t.put a x) (fun y _ => tbV_some _ y) h90).1
  rw [h6] at h4
  exact ⟨w', h3, ⟨h90, h4⟩, h5⟩
/-- 'gone[a] = a'. -/
theorem Gon.put (h : Gon w b g) {a : Int} (h0 : 0 ≤ a) (h1 : a < 90) :
    ∃ w', (Instr.mapUpdate 78 (.map (some b)) (.int .i64 a) (.int .i64 a)).run Tryz.prog w = .ok () w' ∧ Gon w' b (gnPut g a true) ∧ w.mapTurned w' b := by
  obtain ⟨w', h3, h4, h5⟩ := h.mp.put intTy gnTy (ids90 _) (in90_i h0 h1) (.int .i64 a)
  have e : (fun y => if y = a then some (Value.int .i64 a) else gnV g y) = gnV (gnPut g a true) := by
    funext y
    unfold gnV gnPut
    by_cases hy : y = a
    · simp only [hy, if_true]
    · simp only [hy, if_false]
  have h90 : In90 (gnV (gnPut g a true)) := fun y hy => by
    rw [gnV_some] at hy
    unfold gnPut at hy
    split at hy
    · omega
    · exact h.in90 y (by rw [gnV_some]; exact hy)
  rw [e] at h4
  have h6 := (h4.ids intTy (g := gnV (gnPut g a true)) (fun y _ => rfl) h90).1
  rw [h6] at h4
  exact ⟨w', h3, ⟨h90, h4⟩, h5⟩
/-- 'delete(gone, a)'. -/
theorem Gon.del (h : Gon w b g) {a : Int} (ha : InI a) (ty : TypeId) :
    ∃ w', (Builtin.delete_ #[78, 3] ty #[.map (some b), .int .i64 a]).run Tryz.prog w = .ok (.tuple #[]) w' ∧ Gon w' b (gnPut g a false) ∧ w.mapTurned w' b := by
  obtain ⟨w', h3, h4, h5⟩ := h.mp.del intTy gnTy ha ty
  have e : (fun y => if y = a then none else gnV g y) = gnV (gnPut g a false) := by
    funext y
    unfold gnV gnPut
    by_cases hy : y = a
    · simp only [hy, if_true]; rfl
    · simp only [hy, if_false]
  have h90 : In90 (gnV (gnPut g a false)) := fun y hy => by
    rw [gnV_some] at hy
    unfold gnPut at hy
    split at hy
    · cases hy
    · exact h.in90 y (by rw [gnV_some]; exact hy)
  rw [e] at h4
  have h6 := (h4.ids intTy (g := gnV (gnPut g a false)) (fun y _ => rfl) h90).1
  rw [h6] at h4
  exact ⟨w', h3, ⟨h90, h4⟩, h5⟩
/-- 'written[a] = b'. -/
theorem Wrt.put (h : Wrt w b f) {a : Int} (h0 : 0 ≤ a) (h1 : a < 90) {A : Option Addr} {c : Nat} {l : List UInt8} (hv : Ub w 0 (.slice A l.length c) l) :
    ∃ w', (Instr.mapUpdate 71 (.map (some b)) (.int .i64 a) (.slice A l.length c)).run Tryz.prog w = .ok () w' ∧ Wrt w' b (f.put a l) ∧ w.mapTurned w' b := by
  have hkind := h.kind
  obtain ⟨m, hm, hr⟩ := h.mp
  obtain ⟨w', h3, h4, h5⟩ := hm.put intTy wrTy (ids90 _) (in90_i h0 h1) (.slice A l.length c)
  have h6 := Secs.put hr h4 h5 hv (in90_i h0 h1) hkind
  have h90 : In90 (f.put a l) := fun y hy => by
    unfold SF.put at hy
    split at hy
    · omega
    · exact h.in90 y hy
  have h7 : f.nPut (idsOf f).length a = (idsOf (f.put a l)).length := by
    obtain ⟨m', hm', hr'⟩ := h6
    exact (hm'.ids intTy (g := f.put a l) (fun y hy => (hr' y hy).some_iff) h90).1
  rw [h7] at h6
  exact ⟨w', h3, ⟨h90, h6⟩, h5⟩
/-- 'delete(written, a)'. -/
theorem Wrt.del (h : Wrt w b f) {a : Int} (ha : InI a) (ty : TypeId) :
    ∃ w', (Builtin.delete_ #[71, 3] ty #[.map (some b), .int .i64 a]).run Tryz.prog w = .ok (.tuple #[]) w' ∧ Wrt w' b (f.del a) ∧ w.mapTurned w' b := by
  have hkind := h.kind
  obtain ⟨m, hm, hr⟩ := h.mp
  obtain ⟨w', h3, h4, h5⟩ := hm.del intTy wrTy ha ty
  have h6 : Secs w' b (f.del a) (nDel m (idsOf f).length a) := by
    refine ⟨_, h4, fun x hx => ?_⟩
    unfold SF.del
    by_cases hxa : x = a
    · simp only [hxa, if_true]; trivial
    · simp only [hxa, if_false]
      exact (hr x hx).keep fun _ _ h => h.other (by rw [hkind]; simp) h5.grown
  have h90 : In90 (f.del a) := fun y hy => by
    unfold SF.del at hy
    split at hy
    · cases hy
    · exact h.in90 y hy
  have h7 : nDel m (idsOf f).length a = (idsOf (f.del a)).length := by
    obtain ⟨m', hm', hr'⟩ := h6
    exact (hm'.ids intTy (g := f.del a) (fun y hy => (hr' y hy).some_iff) h90).1
  rw [h7] at h6
  exact ⟨w', h3, ⟨h90, h6⟩, h5⟩
end

/-! ### THE PAGER -/
structure Pz where
  g : Nat
  gm : Nat
  bt : Nat
  bw : Nat
  bg : Nat
  h : Zn
def Pz.has (Z : Pz) (b : Nat) : Prop := b = Z.g ∨ b = Z.gm ∨ b = Z.bt ∨ b = Z.bw ∨ b = Z.bg ∨ Z.h.has b
def pgC (Z : Pz) (P : Pgr) : Array Value := #[.pointer (some ⟨Z.h.g, 0, none⟩), .pointer (some ⟨Z.gm, 0, none⟩), .int .i64 P.a, .int .i64 (P.n : Int), .int .u64 (P.tag : Int), .map (some Z.bt), .map (some Z.bw), .map (some Z.bg)]
/-- THE PAGER P LIES AT Z. -/
structure Pg (w : World) (Z : Pz) (P : Pgr) : Prop where
  dk : Dk w Z.h P.D
  mt : Mk w Z.gm Z.h P.a P.num P.last
  blk : Blk w Z.g 80 (pgC Z P)
  tb : Tbl w Z.bt P.tb
  wr : Wrt w Z.bw P.wr
  gn : Gon w Z.bg P.gn
  n1 : Z.bt ≠ Z.bw
  n2 : Z.bt ≠ Z.bg
  n3 : Z.bw ≠ Z.bg
  m1 : ¬ Z.h.has Z.bt
  m2 : ¬ Z.h.has Z.bw
  m3 : ¬ Z.h.has Z.bg
/-- A call on the pager. -/
structure Ptp (Z : Pz) (w : World) (Z' : Pz) (w' : World) : Prop where
  g : Z'.g = Z.g
  hg : Z'.h.g = Z.h.g
  turn : Turn Z.has w w'
  has : ∀ b, Z'.has b → Z.has b ∨ w.heap.size ≤ b
section
variable {w w' w1 : World} {Z Z' Z1 : Pz} {P : Pgr}
theorem Ptp.refl (Z : Pz) (w : World) : Ptp Z w Z w := ⟨rfl, rfl, Turn.refl _ _, fun _ h => .inl h⟩
theorem Ptp.below (hb : Below w.heap.size w w') : Ptp Z w Z w' := ⟨rfl, rfl, Turn.of_below hb, fun _ h => .inl h⟩
theorem Ptp.trans (a : Ptp Z w Z1 w1) (b : Ptp Z1 w1 Z' w') : Ptp Z w Z' w' :=
  ⟨b.g.trans a.g, b.hg.trans a.hg, a.turn.trans b.turn a.has, fun x hx => (b.has x hx).elim (a.has x) fun h => .inr (Nat.le_trans a.turn.size h)⟩
theorem Pg.later (p : Pg w Z P) (hb : Below w.heap.size w w') : Pg w' Z P :=
  ⟨p.dk.later hb, p.mt.later hb, p.blk.later hb, p.tb.later hb, p.wr.later hb, p.gn.later hb, p.n1, p.n2, p.n3, p.m1, p.m2, p.m3⟩
theorem Pg.lt (p : Pg w Z P) {b : Nat} (hb : Z.has b) : b < w.heap.size := by
  rcases hb with rfl | rfl | rfl | rfl | rfl | h
  · exact p.blk.lt
  · exact p.mt.blk.lt
  · exact p.tb.lt
  · exact p.wr.lt
  · exact p.gn.lt
  · exact p.dk.lt h
/-- Of what kinds a pager's blocks are. -/
theorem Pg.kinds (p : Pg w Z P) {b : Nat} (hb : Z.has b) : kindAt w b = some (some 80) ∨ kindAt w b = some (some 83) ∨ kindAt w b = some (some 75) ∨ kindAt w b = some none ∨ kindAt w b = some (some 113) := by
  rcases hb with rfl | rfl | rfl | rfl | rfl | h
  · exact .inl (kind_blk p.blk)
  · exact .inr (.inl (kind_blk p.mt.blk))
  · exact .inr (.inr (.inr (.inl p.tb.kind)))
  · exact .inr (.inr (.inr (.inl p.wr.kind)))
  · exact .inr (.inr (.inr (.inl p.gn.kind)))
  · rcases p.dk.kinds h with h | h | h
    · exact .inr (.inr (.inl h))
    · exact .inr (.inr (.inr (.inl h)))
    · exact .inr (.inr (.inr (.inr h)))
end
end Go.Proofs.YtildohndbeagaaaGreatDoor
