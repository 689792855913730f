/- What the proof of PagerLeast needs, part 3. -/
import Derived.Test.YtildohndbeagaaaGreatDoorPagerLeastJ2
import Derived.Maps.AppendAt
import Derived.RegionTactic
import Derived.Lib.AppendStr
import Derived.BigQuiet
import Derived.Deep.QuietTactic

namespace Go.Proofs.YtildohndbeagaaaGreatDoor
open Go Go.RowKit
set_option linter.unusedVariables false

/-- Only blocks of F have turned, and new ones were made. -/
structure Turn (F : Nat → Prop) (w w' : World) : Prop where
  os : w'.os = w.os
  tape : w'.tape = w.tape
  output : w'.output = w.output
  size : w.heap.size ≤ w'.heap.size
  block : ∀ b, b < w.heap.size → ¬ F b → w'.heap[b]? = w.heap[b]?
theorem Turn.refl (F : Nat → Prop) (w : World) : Turn F w w := ⟨rfl, rfl, rfl, Nat.le_refl _, fun _ _ _ => rfl⟩
theorem Turn.of_below {F : Nat → Prop} {w w' : World} (h : Below w.heap.size w w') : Turn F w w' := ⟨h.os, h.tape, h.output, h.size, fun b hb _ => h.block b hb⟩
theorem Turn.of_grown {F : Nat → Prop} {w w' : World} {row : Option Nat} (h : w.grownBy w' row) (hr : ∀ z, row = some z → F z) : Turn F w w' :=
  ⟨h.os, h.tape, h.output, h.size, fun b hb hF => h.block b hb (fun e => hF (hr b e.symm))⟩
theorem Turn.trans {F F' : Nat → Prop} {w w1 w2 : World} (h : Turn F w w1) (k : Turn F' w1 w2) (hF : ∀ b, F' b → F b ∨ w.heap.size ≤ b) : Turn F w w2 :=
  ⟨k.os.trans h.os, k.tape.trans h.tape, k.output.trans h.output, Nat.le_trans h.size k.size, fun b hb hn =>
    (k.block b (Nat.lt_of_lt_of_le hb h.size) (fun e => by rcases hF b e with h1 | h1; exact hn h1; omega)).trans (h.block b hb hn)⟩
theorem Turn.mono {F F' : Nat → Prop} {w w' : World} (h : Turn F w w') (hF : ∀ b, F b → b < w.heap.size → F' b) : Turn F' w w' := ⟨h.os, h.tape, h.output, h.size, fun b hb hn => h.block b hb (fun e => hn (hF b e hb))⟩
theorem Turn.below {F : Nat → Prop} {B : Nat} {w0 w w' : World} (h : Below B w0 w) (k : Turn F w w') (hB : B ≤ w.heap.size) (hF : ∀ b, F b → B ≤ b) : Below B w0 w' :=
  ⟨k.os.trans h.os, k.tape.trans h.tape, k.output.trans h.output, Nat.le_trans h.size k.size, fun b hb =>
    (k.block b (Nat.lt_of_lt_of_le hb hB) (fun e => by have := hF b e; omega)).trans (h.block b hb)⟩
theorem Turn.setCell {F : Nat → Prop} {w w' : World} (h : Turn F w w') {p : Addr} (hp : F p.block ∨ w.heap.size ≤ p.block) (u : Value) : Turn F w (w'.setCell p u) :=
  ⟨h.os, h.tape, h.output, by simpa using h.size, fun b hb hn => (Below.heap_setCell w' p u b (fun e => by subst e; rcases hp with h1 | h1; exact hn h1; omega)).trans (h.block b hb hn)⟩
theorem Turn.alloc {F : Nat → Prop} {w w' : World} (h : Turn F w w') (o : Obj) : Turn F w (w'.alloc o) :=
  h.trans (F' := fun _ => False) (Turn.of_below ((Below.refl _ _).alloc (Nat.le_refl _) o)) (fun _ h => h.elim)
theorem Turn.drew {F : Nat → Prop} {w w' : World} (h : Turn F w w') : Turn F w w'.drew := ⟨h.os, h.tape, h.output, h.size, h.block⟩
theorem Blk.turn {F : Nat → Prop} {w w' : World} {g : Nat} {t : TypeId} {cs : Array Value} (h : Blk w g t cs) (k : Turn F w w') (hF : ¬ F g) : Blk w' g t cs := (k.block g h.lt hF).trans h

/-- Where a disk lies: its own block, the two maps, the pending writes. -/
structure Zn where
  g : Nat
  bv : Nat
  bg : Nat
  pv : Value
def Zn.has (h : Zn) (b : Nat) : Prop := b = h.g ∨ b = h.bv ∨ b = h.bg ∨ h.pv.ownBlock = some b

/-- A pending write, as a function value. -/
def PnIs (w : World) (v : Value) : Pnd → Prop
  | .wr a b => ∃ ga A c, v = .func (Fn.func 89) #[] #[.pointer (some ⟨ga + 1, 0, none⟩), .pointer (some ⟨ga, 0, none⟩)] ∧ Blk w ga 3 #[.int .i64 a] ∧ Blk w (ga + 1) 68 #[.slice A b.length c] ∧ Ub w 0 (.slice A b.length c) b
  | .fr a => ∃ ga, v = .func (Fn.func 97) #[] #[.pointer (some ⟨ga, 0, none⟩)] ∧ Blk w ga 3 #[.int .i64 a]
def pnKinds : List TypeId := [3, 68, 5]
theorem PnIs.later {w w' : World} {v : Value} {p : Pnd} (h : PnIs w v p) (hb : Below w.heap.size w w') : PnIs w' v p := by
  cases p with
  | wr a b =>
    obtain ⟨ga, A, c, h1, h2, h3, h4⟩ := h
    exact ⟨ga, A, c, h1, h2.later hb, h3.later hb, h4.later hb⟩
  | fr a =>
    obtain ⟨ga, h1, h2⟩ := h
    exact ⟨ga, h1, h2.later hb⟩
theorem PnIs.other {w w' : World} {v : Value} {p : Pnd} (h : PnIs w v p) {z : Nat} (hz : ∀ t ∈ pnKinds, kindAt w z ≠ some (some t)) (hg : w.grownBy w' (some z)) : PnIs w' v p := by
  have key : ∀ {g : Nat} {t : TypeId} {cs : Array Value}, Blk w g t cs → t ∈ pnKinds → Blk w' g t cs := fun hb ht => hb.grown hg (fun e => by
    injection e with e
    subst e
    exact hz _ ht (kind_blk hb))
  cases p with
  | wr a b =>
    obtain ⟨ga, A, c, h1, h2, h3, h4⟩ := h
    exact ⟨ga, A, c, h1, key h2 (by simp [pnKinds]), key h3 (by simp [pnKinds]), h4.other (hz _ (by simp [pnKinds])) hg⟩
  | fr a =>
    obtain ⟨ga, h1, h2⟩ := h
    exact ⟨ga, h1, key h2 (by simp [pnKinds])⟩

/-- The pending writes, as the values vs. -/
def PnL (w : World) (vs : List Value) (ps : List Pnd) : Prop := vs.length = ps.length ∧ ∀ (i : Nat) v p, vs[i]? = some v → ps[i]? = some p → PnIs w v p
theorem PnL.keep {w w' : World} {vs : List Value} {ps : List Pnd} (h : PnL w vs ps) (hk : ∀ v p, PnIs w v p → PnIs w' v p) : PnL w' vs ps := ⟨h.1, fun i v p h1 h2 => hk v p (h.2 i v p h1 h2)⟩
theorem PnL.nil (w : World) : PnL w [] [] := ⟨rfl, fun i v p h => by simp at h⟩
theorem PnL.snoc {w : World} {vs : List Value} {ps : List Pnd} (h : PnL w vs ps) {v : Value} {p : Pnd} (hv : PnIs w v p) : PnL w (vs ++ [v]) (ps ++ [p]) := by
  refine ⟨by rw [List.length_append, List.length_append, h.1]; rfl, fun i u q h1 h2 => ?_⟩
  rcases Nat.lt_or_ge i vs.length with hi | hi
  · rw [List.getElem?_append_left hi] at h1
    rw [List.getElem?_append_left (by rw [← h.1]; exact hi)] at h2
    exact h.2 i u q h1 h2
  · rw [List.getElem?_append_right hi] at h1
    rw [List.getElem?_append_right (by rw [← h.1]; exact hi)] at h2
    rw [h.1] at h1
    rcases Nat.eq_zero_or_pos (i - ps.length) with h0 | h0
    · rw [h0] at h1 h2
      simp only [List.getElem?_cons_zero, Option.some.injEq] at h1 h2
      subst h1 h2
      exact hv
    · rw [List.getElem?_eq_none (by simp; omega)] at h1
      cases h1

/-- THE DISK D LIES AT h. -/
structure Dk (w : World) (h : Zn) (D : Dsk) : Prop where
  blk : Blk w h.g 75 #[.int .i64 D.size, .int .i64 D.limit, .map (some h.bv), .map (some h.bg), h.pv]
  view : Secs w h.bv D.view D.nv
  ground : Secs w h.bg D.ground D.ng
  ne : h.bv ≠ h.bg
  pend : ∃ vs, Ow 113 w 0 h.pv vs ∧ PnL w vs D.pend
theorem Dk.later {w w' : World} {h : Zn} {D : Dsk} (d : Dk w h D) (hb : Below w.heap.size w w') : Dk w' h D := by
  obtain ⟨vs, h1, h2⟩ := d.pend
  exact ⟨d.blk.later hb, d.view.later hb, d.ground.later hb, d.ne, vs, h1.later hb, h2.keep fun _ _ h => h.later hb⟩
/-- Of what kinds a disk's blocks are. -/
theorem Dk.kinds {w : World} {h : Zn} {D : Dsk} (d : Dk w h D) {b : Nat} (hb : h.has b) : kindAt w b = some (some 75) ∨ kindAt w b = some none ∨ kindAt w b = some (some 113) := by
  obtain ⟨vs, h1, _⟩ := d.pend
  rcases hb with rfl | rfl | rfl | hb
  · exact .inl (kind_blk d.blk)
  · exact .inr (.inl d.view.kind)
  · exact .inr (.inl d.ground.kind)
  · exact .inr (.inr (kind_own h1 hb))
theorem Dk.lt {w : World} {h : Zn} {D : Dsk} (d : Dk w h D) {b : Nat} (hb : h.has b) : b < w.heap.size := by
  obtain ⟨vs, h1, _⟩ := d.pend
  rcases hb with rfl | rfl | rfl | hb
  · exact d.blk.lt
  · exact d.view.lt
  · exact d.ground.lt
  · rcases h1.2 with ⟨h2, _⟩ | ⟨g, cap, cur, h2, _, hh, _⟩
    · rw [h2] at hb; cases hb
    · rw [h2] at hb
      simp only [Value.ownBlock, Option.some.injEq] at hb
      subst hb
      exact lt_of_block hh

/-- A call on the disk: the blocks that it has now are those of before, or new ones. -/
structure Stp (h : Zn) (w : World) (h' : Zn) (w' : World) : Prop where
  g : h'.g = h.g
  turn : Turn h.has w w'
  has : ∀ b, h'.has b → h.has b ∨ w.heap.size ≤ b
theorem Stp.refl (h : Zn) (w : World) : Stp h w h w := ⟨rfl, Turn.refl _ _, fun _ h => .inl h⟩
theorem Stp.below {h : Zn} {w w' : World} (hb : Below w.heap.size w w') : Stp h w h w' := ⟨rfl, Turn.of_below hb, fun _ h => .inl h⟩
theorem Stp.trans {h h1 h2 : Zn} {w w1 w2 : World} (a : Stp h w h1 w1) (b : Stp h1 w1 h2 w2) : Stp h w h2 w2 :=
  ⟨b.g.trans a.g, a.turn.trans b.turn a.has, fun x hx => by
    rcases b.has x hx with h3 | h3
    · exact a.has x h3
    · exact .inr (Nat.le_trans a.turn.size h3)⟩
/-- What lies in a block of another kind stays. -/
theorem Stp.blk {h h' : Zn} {w w' : World} {D : Dsk} (s : Stp h w h' w') (d : Dk w h D) {g : Nat} {t : TypeId} {cs : Array Value} (hb : Blk w g t cs) (h1 : t ≠ 75) (h2 : t ≠ 113) : Blk w' g t cs :=
  hb.turn s.turn fun e => by
    have hk := kind_blk hb
    rcases d.kinds e with h3 | h3 | h3
    · rw [hk] at h3; injection h3 with h3; injection h3 with h3; exact h1 h3
    · rw [hk] at h3; injection h3 with h3; cases h3
    · rw [hk] at h3; injection h3 with h3; injection h3 with h3; exact h2 h3
theorem Stp.ub {h h' : Zn} {w w' : World} {D : Dsk} (s : Stp h w h' w') (d : Dk w h D) {B : Nat} {v : Value} {l : List UInt8} (hb : Ub w B v l) : Ub w' B v l :=
  hb.keep fun b hb => s.turn.block b (by obtain ⟨_, cs, fz, hh⟩ := hb; exact lt_of_block hh) fun e => by
    have hk := kind_ub hb
    rcases d.kinds e with h3 | h3 | h3
    · rw [hk] at h3; revert h3; decide
    · rw [hk] at h3; injection h3 with h3; cases h3
    · rw [hk] at h3; revert h3; decide
end Go.Proofs.YtildohndbeagaaaGreatDoor

namespace Go.Proofs.YtildohndbeagaaaGreatDoor
open Go Go.RowKit
set_option linter.unusedVariables false

set_option maxHeartbeats 1000000 in
theorem writing_any (a : Int) (A : Option Addr) (c : Nat) (b : List UInt8) (w : World) (hu : Ub w 0 (.slice A b.length c) b) :
    Calls Tryz.prog 69 #[.int .i64 a, .slice A b.length c] w fun e w' => ∃ v, e = .returned v ∧ PnIs w' v (.wr a b) ∧ Below w.heap.size w w' := by
  have hmf := run_makeFunc Tryz.prog
  have b1 : Blk ((w.alloc (.cells #[.int .i64 a] 3)).alloc (.cells #[.slice A b.length c] 68)) w.heap.size 3 #[.int .i64 a] := (Blk.new _ _ _).alloc _
  have b2 : Blk ((w.alloc (.cells #[.int .i64 a] 3)).alloc (.cells #[.slice A b.length c] 68)) (w.heap.size + 1) 68 #[.slice A b.length c] := by
    have := Blk.new (w.alloc (.cells #[.int .i64 a] 3)) 68 #[.slice A b.length c]
    simpa using this
  have q : Below w.heap.size w ((w.alloc (.cells #[.int .i64 a] 3)).alloc (.cells #[.slice A b.length c] 68)) := ((Below.refl _ _).alloc (Nat.le_refl _) _).alloc (by simp) _
  have HU := Lib.hid (hu.later q)
  clear hu
  go_enter Tryz.func69, Tryz.ntmps69
  go_wp2_with fail
  go_ret
  exact ⟨_, rfl, ⟨_, A, c, rfl, b1, b2, HU.out⟩, q⟩
set_option maxHeartbeats 1000000 in
theorem freeing_any (a : Int) (w : World) :
    Calls Tryz.prog 84 #[.int .i64 a] w fun e w' => ∃ v, e = .returned v ∧ PnIs w' v (.fr a) ∧ Below w.heap.size w w' := by
  have hmf := run_makeFunc Tryz.prog
  go_enter Tryz.func84, Tryz.ntmps84
  go_wp2_with fail
  go_ret
  exact ⟨_, rfl, ⟨_, rfl, Blk.new _ _ _⟩, (Below.refl _ _).alloc (Nat.le_refl _) _⟩

set_option maxHeartbeats 1000000 in
theorem fclos_any (ga : Nat) (a : Int) (bm n0 : Nat) (f : SF) (n : Int) (w : World) (hga : Blk w ga 3 #[.int .i64 a]) (hs : Secs w bm f n0) (ha : InI a) :
    Calls Tryz.prog 97 #[.map (some bm), .int .i64 n, .pointer (some ⟨ga, 0, none⟩)] w fun e w' => e = .returned (.tuple #[]) ∧ Secs w' bm (f.del a) (f.nDel n0 a) ∧ w.grownBy w' (some bm) := by
  obtain ⟨m, hm, hr⟩ := hs
  obtain ⟨w', hrun, hm', ht⟩ := hm.del intTy secTy ha 0
  have c0 : w.cell? ⟨ga, 0, none⟩ = some (.int .i64 a) := hga.cell 0
  have HR := Lib.hid hr
  have HM := Lib.hid hm'
  have HT := Lib.hid ht
  have HK := Lib.hid (kind_map hm)
  have HI := Lib.hid ha
  have HN : Hid (nDel m n0 a = f.nDel n0 a) := by
    unfold nDel SF.nDel
    rw [Hid, (hr a ha).some_iff]
  clear hr hm' ht hm hga ha
  go_enter Tryz.func97, Tryz.ntmps97
  go_wp2_with fail
  go_end0
  refine ⟨rfl, ⟨_, by rw [← HN.out]; exact HM.out, fun x hx => ?_⟩, HT.out.grown⟩
  unfold SF.del
  by_cases hxa : x = a
  · simp only [hxa, if_true]; trivial
  · simp only [hxa, if_false]
    exact (HR.out x hx).keep fun _ _ h => h.other (by rw [HK.out]; simp) HT.out.grown

theorem grown_then {w w1 w2 : World} {z : Nat} (h : Below w.heap.size w w1) (k : w1.grownBy w2 (some z)) : w.grownBy w2 (some z) :=
  ⟨k.os.trans h.os, k.tape.trans h.tape, k.output.trans h.output, Nat.le_trans h.size k.size, fun i hi hne => (k.block i (Nat.lt_of_lt_of_le hi h.size) hne).trans (h.block i hi)⟩
theorem Secs.put {w w3 : World} {bm n0 : Nat} {m : Int → Option Value} {f : SF} {a : Int} {v : Value} {l : List UInt8} (hr : ∀ x, InI x → SecV w (m x) (f x)) (hm3 : MpV Tryz.prog 3 w3 bm (fun x => if x = a then some v else m x) (nPut m n0 a)) (ht : w.mapTurned w3 bm)
    (hv : Ub w 0 v l) (ha : InI a) (hk : kindAt w bm = some none) : Secs w3 bm (f.put a l) (f.nPut n0 a) := by
  have e : nPut m n0 a = f.nPut n0 a := by unfold nPut SF.nPut; rw [(hr a ha).some_iff]
  refine ⟨_, e ▸ hm3, fun x hx => ?_⟩
  unfold SF.put
  by_cases hxa : x = a
  · simp only [hxa, if_true]
    exact hv.other (by rw [hk]; simp) ht.grown
  · simp only [hxa, if_false]
    exact (hr x hx).keep fun _ _ h => h.other (by rw [hk]; simp) ht.grown
theorem SecV.get {w : World} {v : Option Value} {l : Option (List UInt8)} (h : SecV w v l) : ∃ A c, v.getD (.slice none 0 0) = .slice A (l.getD []).length c ∧ Ub w 0 (.slice A (l.getD []).length c) (l.getD []) := by
  unfold SecV at h
  cases v with
  | none =>
    cases l with
    | none => exact ⟨none, 0, rfl, Sl.nil⟩
    | some l => exact h.elim
  | some v =>
    cases l with
    | none => exact h.elim
    | some l =>
      obtain ⟨A, c, rfl, _⟩ := Ub.bs h |>.at
      exact ⟨A, c, rfl, h⟩

theorem run_slice_pre {P : Program} (w : World) {t e : TypeId} {z : Value} {bytes : Nat} (E : Elem P t e z 1 bytes) {A : Option Addr} {m c : Nat} (_ : True) (hmc : (m : Int) ≤ (c : Int)) (n : Nat) :
    (Instr.sliceAt t (.slice A n c) none (some (.int .i64 (m : Int))) none).run P w = .ok (.slice (if c = 0 then A else A.map (·.add 0)) m c) w := by
  obtain ⟨i, hi0, hz, hs, hby⟩ := E.info
  simp [Instr.sliceAt, Instr.slice, Instr.sliceBounds, Instr.sliceBound, run_underlying E.under, sizeOf, typeInfo, hi0, asIntOf]
  intro h; omega
/-- 'b[:n]' of bytes, whatever the slice is. -/
theorem wpList_slice_pre {P : Program} (w : World) {ops : Array Oper} {rest : List Oper} {o : Oper} {a : Act} {Q : Exit → Act → World → Prop} (hgd : o.guard = none) (x hi : Operand) {t e : TypeId} {z : Value} {bytes : Nat} (E : Elem P t e z 1 bytes)
    (ho : o.op = .slice t x none (some hi) none) {S : Nat → Prop} {l : List UInt8} {A : Option Addr} {c m : Nat} (hb : Bs S w (.slice A l.length c) l) (hx : a.eval x = .slice A l.length c) (hh : a.eval hi = .int .i64 (m : Int)) (hm : m ≤ l.length)
    (h : ∀ A', Bs S w (.slice A' m c) (l.take m) → wpList P ops Q rest (a.put o.dst (.slice A' m c)) w) : wpList P ops Q (o :: rest) a w := by
  refine wpList_plain hgd fun K hK => ?_
  obtain ⟨i, hi0, hz, hs, hby⟩ := E.info
  obtain ⟨A1, c1, hv, h3, h4, h5, h6⟩ := hb.at
  injection hv with hA _ hc
  subst hA hc
  have hl : (l.take m).length = m := by rw [List.length_take]; omega
  have hh' : True := trivial
  have key : ∀ A', (c = 0 → A' = A) → (c ≠ 0 → A' = A.map (·.add 0)) → Bs S w (.slice A' m c) (l.take m) := by
    intro A' g1 g2
    have := Bs.mk_ (S := S) (w := w) (l := l.take m) (A := A') (c := c) (by omega) h4 (fun e0 => by
      by_cases hc0 : c = 0
      · exact hc0
      · have := g2 hc0
        rw [e0] at this
        cases A with
        | none => exact h5 rfl
        | some ad => cases this) (fun hn => by
      obtain ⟨b, o', hA, hS, hcell⟩ := h6 (by omega)
      refine ⟨b, o', ?_, hS, fun j hj => ?_⟩
      · rw [g2 (by omega), hA]
        simp [addr_add_none]
      · rw [hcell j (by omega), List.getElem_take])
    rwa [hl] at this
  have hrun := run_slice_pre (P := P) w E (A := A) hh' (show (m : Int) ≤ (c : Int) by omega) l.length
  unfold Oper.wp
  simp [execOp, ho, hx, hh, hrun, Result.andThen]
  refine hK _ _ (h _ (key _ (fun e => if_pos e) (fun e => if_neg e)))

set_option maxHeartbeats 4000000 in
set_option maxRecDepth 100000 in
theorem wclos_at (ga gb : Nat) (A : Option Addr) (c : Nat) (a : Int) (b : List UInt8) (bm n0 : Nat) (f : SF) (n : Int) (N : Nat) (w : World) (hga : Blk w ga 3 #[.int .i64 a]) (hgb : Blk w gb 68 #[.slice A b.length c]) (hub : Ub w 0 (.slice A b.length c) b)
    (hs : Secs w bm f n0) (hn0 : n0 ≤ 65536) (ha : InI a) (hb : b.length ≤ 512) (ho : ((f a).getD []).length ≤ 512) (hcase : (n < 0 ∧ N = 0) ∨ n = (N : Int)) (hN : N ≤ 9223372036854775807) :
    Calls Tryz.prog 89 #[.map (some bm), .int .i64 n, .pointer (some ⟨gb, 0, none⟩), .pointer (some ⟨ga, 0, none⟩)] w fun e w' => e = .returned (.tuple #[]) ∧ Secs w' bm (f.put a (tornB b ((f a).getD []) (N : Int))) (f.nPut n0 a) ∧ w.grownBy w' (some bm) := by
  obtain ⟨m, hm, hr⟩ := hs
  obtain ⟨Ao, co, hmo, huo⟩ := (hr a ha).get
  obtain ⟨o, hoe⟩ : ∃ o, (f a).getD [] = o := ⟨_, rfl⟩
  rw [hoe] at hmo huo ho ⊢
  have c0 : w.cell? ⟨ga, 0, none⟩ = some (.int .i64 a) := hga.cell 0
  have cb : w.cell? ⟨gb, 0, none⟩ = some (.slice A b.length c) := hgb.cell 0
  obtain ⟨_, _, hv0, hlc, hcm, _, hA⟩ := hub.bs.at
  injection hv0 with hA0 _ hc0
  subst hA0 hc0
  obtain ⟨_, _, hv0, hloc, hocm, _, hAo⟩ := huo.bs.at
  injection hv0 with hA0 _ hc0
  subst hA0 hc0
  have hgaL := hga.lt
  have hgbL := hgb.lt
  have HU := Lib.hid hub
  have HUO := Lib.hid huo
  have HR := Lib.hid hr
  have HM := Lib.hid hm
  have HI := Lib.hid ha
  have HMO := Lib.hid hmo
  have HAO := Lib.hid hAo
  have hr3 : N < b.length ∧ N < o.length ∨ N < b.length ∧ ¬ N < o.length ∨ N = b.length ∨ b.length < N := by omega
  clear hub huo hr hm ha hmo hga hgb hA hAo hoe
  have hgl := hgaL
  have c00 := c0
  have hmax : (if n < 0 then (0 : Int) else n) = (N : Int) := by
    rcases hcase with ⟨h0, rfl⟩ | rfl
    · rw [if_pos h0]; rfl
    · rw [if_neg (by omega)]
  clear hcase
  rcases hr3 with ⟨h1, h2⟩ | ⟨h1, h2⟩ | h1 | h1
  · have HTB : Hid (tornB b o (N : Int) = b.take N ++ o.drop N) := by unfold tornB; rw [Hid, Int.toNat_natCast, if_pos h1]
    obtain ⟨bo, oo, rfl, _, _⟩ := HAO.out (by omega)
    have hkc : ¬ co = N := by omega
    have HC : Hid (Bs (UbS w 0) w (.slice (some ⟨bo, oo + N, none⟩) (o.length - N) (co - N)) (o.drop N)) := by
      have := Bs.cut HUO.out (show N ≤ o.length by omega)
      rw [if_neg hkc] at this
      exact this
    have hmb : N ≤ b.length := by omega
    have i1 : (N : Int) < (b.length : Int) := by omega
    have i2 : ¬ (b.length : Int) < (N : Int) := by omega
    have i3 : (N : Int) ≤ (b.length : Int) := by omega
    have i4 : (N : Int) ≤ (c : Int) := by omega
    have i5 : (N : Int) < (o.length : Int) := by omega
    have i6 : (N : Int) ≤ (o.length : Int) := by omega
    have i7 : (o.length : Int) ≤ (co : Int) := by omega
    have i0 : ¬ (N : Int) < 0 := by omega
    have i9 : (0 : Int) ≤ (N : Int) := by omega
    go_enter Tryz.func89, Tryz.ntmps89
    go_wp2_with (first
      | (refine wpList_slice_pre _ rfl (.tmp 14) (.tmp 15) elemU8 rfl (Sl.alloc1 HU.out _) rfl rfl hmb ?_; intro A9 HP9)
      | (at_builtin; refine wpList_append_bs _ rfl (.tmp 13) (.tmp 16) elemU8 rfl (Ob.made _ _ w.heap.size (Nat.le_refl _) (by simp)) HP9 rfl rfl (by simp only [List.length_nil, List.length_take]; omega) (by simp) ?_; intro A1 k1 c1 w1 hown1 hga1 hat1; have qa : Below w.heap.size w w1 := below_grown_own ((Below.refl _ _).alloc (Nat.le_refl _) _) (Ob.made _ _ w.heap.size (Nat.le_refl _) (by simp)) hga1 (by simp); have hlk := (HM.out.later qa).look1 intTy secTy (nilBytes w1) HI.out; rw [HMO.out] at hlk; have c0 := cell_later qa c0; have cb := cell_later qa cb)
      | (at_builtin; refine wpList_append_bs _ rfl (.tmp 31) (.tmp 34) elemU8 rfl hown1 (Bs.later HC.out qa) rfl rfl (by simp only [List.nil_append, List.length_take, List.length_drop]; omega) qa.size ?_; intro A2 k2 c2 w2 hown2 hga2 hat2; have qb : Below w.heap.size w w2 := below_grown_own qa hown1 hga2 qa.size; have c0 := (qb.cell (p := ⟨ga, 0, none⟩) hgl).trans c00; obtain ⟨w3, hrun3, hm3, ht3⟩ := (HM.out.later qb).put intTy secTy (by unfold maxLen; omega) HI.out (.slice A2 k2 c2); have HM3 := Lib.hid hm3; have HT3 := Lib.hid ht3; clear hm3 ht3)
      | fail)
    go_end0
    refine ⟨rfl, ?_, grown_then qb HT3.out.grown⟩
    have hub3 : Ub w2 0 (.slice A2 k2 c2) (tornB b o (N : Int)) := by rw [HTB.out]; exact (Ub.of_own (by simpa using hown2)).lower (Nat.zero_le _)
    exact Secs.put (fun x hx => (HR.out x hx).keep fun _ _ h => h.later qb) HM3.out HT3.out hub3 HI.out (kind_map (HM.out.later qb))
  · have HTB : Hid (tornB b o (N : Int) = b.take N) := by unfold tornB; rw [Hid, Int.toNat_natCast, if_pos h1, List.drop_eq_nil_of_le (by omega), List.append_nil]
    have hmb : N ≤ b.length := by omega
    have i1 : (N : Int) < (b.length : Int) := by omega
    have i2 : ¬ (b.length : Int) < (N : Int) := by omega
    have i3 : (N : Int) ≤ (b.length : Int) := by omega
    have i4 : (N : Int) ≤ (c : Int) := by omega
    have i5 : ¬ (N : Int) < (o.length : Int) := by omega
    have i0 : ¬ (N : Int) < 0 := by omega
    have i9 : (0 : Int) ≤ (N : Int) := by omega
    go_enter Tryz.func89, Tryz.ntmps89
    go_wp2_with (first
      | (refine wpList_slice_pre _ rfl (.tmp 14) (.tmp 15) elemU8 rfl (Sl.alloc1 HU.out _) rfl rfl hmb ?_; intro A9 HP9)
      | (at_builtin; refine wpList_append_bs _ rfl (.tmp 13) (.tmp 16) elemU8 rfl (Ob.made _ _ w.heap.size (Nat.le_refl _) (by simp)) HP9 rfl rfl (by simp only [List.length_nil, List.length_take]; omega) (by simp) ?_; intro A1 k1 c1 w1 hown1 hga1 hat1; have qa : Below w.heap.size w w1 := below_grown_own ((Below.refl _ _).alloc (Nat.le_refl _) _) (Ob.made _ _ w.heap.size (Nat.le_refl _) (by simp)) hga1 (by simp); have hlk := (HM.out.later qa).look1 intTy secTy (nilBytes w1) HI.out; rw [HMO.out] at hlk; have c0 := cell_later qa c0; have cb := cell_later qa cb; obtain ⟨w3, hrun3, hm3, ht3⟩ := (HM.out.later qa).put intTy secTy (by unfold maxLen; omega) HI.out (.slice A1 k1 c1); have HM3 := Lib.hid hm3; have HT3 := Lib.hid ht3; clear hm3 ht3)
      | fail)
    go_end0
    refine ⟨rfl, ?_, grown_then qa HT3.out.grown⟩
    have hub3 : Ub w1 0 (.slice A1 k1 c1) (tornB b o (N : Int)) := by rw [HTB.out]; exact (Ub.of_own (by simpa using hown1)).lower (Nat.zero_le _)
    exact Secs.put (fun x hx => (HR.out x hx).keep fun _ _ h => h.later qa) HM3.out HT3.out hub3 HI.out (kind_map (HM.out.later qa))
  · subst h1
    have HTB : Hid (tornB b o ((b.length : Nat) : Int) = b.take b.length) := by unfold tornB; rw [Hid, Int.toNat_natCast, if_neg (by omega), List.take_length]
    have hmb : b.length ≤ b.length := by omega
    have i1 : ¬ ((b.length : Nat) : Int) < (b.length : Int) := by omega
    have i3 : (b.length : Int) ≤ (c : Int) := by omega
    have i0 : ¬ ((b.length : Nat) : Int) < 0 := by omega
    have i9 : (0 : Int) ≤ ((b.length : Nat) : Int) := by omega
    go_enter Tryz.func89, Tryz.ntmps89
    go_wp2_with (first
      | (refine wpList_slice_pre _ rfl (.tmp 14) (.tmp 15) elemU8 rfl (Sl.alloc1 HU.out _) rfl rfl hmb ?_; intro A9 HP9)
      | (at_builtin; refine wpList_append_bs _ rfl (.tmp 13) (.tmp 16) elemU8 rfl (Ob.made _ _ w.heap.size (Nat.le_refl _) (by simp)) HP9 rfl rfl (by simp only [List.length_nil, List.length_take]; omega) (by simp) ?_; intro A1 k1 c1 w1 hown1 hga1 hat1; have qa : Below w.heap.size w w1 := below_grown_own ((Below.refl _ _).alloc (Nat.le_refl _) _) (Ob.made _ _ w.heap.size (Nat.le_refl _) (by simp)) hga1 (by simp); have hlk := (HM.out.later qa).look1 intTy secTy (nilBytes w1) HI.out; rw [HMO.out] at hlk; have c0 := cell_later qa c0; have cb := cell_later qa cb; obtain ⟨w3, hrun3, hm3, ht3⟩ := (HM.out.later qa).put intTy secTy (by unfold maxLen; omega) HI.out (.slice A1 k1 c1); have HM3 := Lib.hid hm3; have HT3 := Lib.hid ht3; clear hm3 ht3)
      | fail)
    go_end0
    refine ⟨rfl, ?_, grown_then qa HT3.out.grown⟩
    have hub3 : Ub w1 0 (.slice A1 k1 c1) (tornB b o ((b.length : Nat) : Int)) := by rw [HTB.out]; exact (Ub.of_own (by simpa using hown1)).lower (Nat.zero_le _)
    exact Secs.put (fun x hx => (HR.out x hx).keep fun _ _ h => h.later qa) HM3.out HT3.out hub3 HI.out (kind_map (HM.out.later qa))
  · have HTB : Hid (tornB b o (N : Int) = b.take b.length) := by unfold tornB; rw [Hid, Int.toNat_natCast, if_neg (by omega), List.take_length]
    have hmb : b.length ≤ b.length := by omega
    have i1 : ¬ (N : Int) < (b.length : Int) := by omega
    have i3 : (b.length : Int) ≤ (c : Int) := by omega
    have i2 : (b.length : Int) < (N : Int) := by omega
    have i6 : ¬ (N : Int) ≤ (b.length : Int) := by omega
    have i0 : ¬ (N : Int) < 0 := by omega
    have i9 : (0 : Int) ≤ (N : Int) := by omega
    go_enter Tryz.func89, Tryz.ntmps89
    go_wp2_with (first
      | (refine wpList_slice_pre _ rfl (.tmp 14) (.tmp 15) elemU8 rfl (Sl.alloc1 HU.out _) rfl rfl hmb ?_; intro A9 HP9)
      | (at_builtin; refine wpList_append_bs _ rfl (.tmp 13) (.tmp 16) elemU8 rfl (Ob.made _ _ w.heap.size (Nat.le_refl _) (by simp)) HP9 rfl rfl (by simp only [List.length_nil, List.length_take]; omega) (by simp) ?_; intro A1 k1 c1 w1 hown1 hga1 hat1; have qa : Below w.heap.size w w1 := below_grown_own ((Below.refl _ _).alloc (Nat.le_refl _) _) (Ob.made _ _ w.heap.size (Nat.le_refl _) (by simp)) hga1 (by simp); have hlk := (HM.out.later qa).look1 intTy secTy (nilBytes w1) HI.out; rw [HMO.out] at hlk; have c0 := cell_later qa c0; have cb := cell_later qa cb; obtain ⟨w3, hrun3, hm3, ht3⟩ := (HM.out.later qa).put intTy secTy (by unfold maxLen; omega) HI.out (.slice A1 k1 c1); have HM3 := Lib.hid hm3; have HT3 := Lib.hid ht3; clear hm3 ht3)
      | fail)
    go_end0
    refine ⟨rfl, ?_, grown_then qa HT3.out.grown⟩
    have hub3 : Ub w1 0 (.slice A1 k1 c1) (tornB b o (N : Int)) := by rw [HTB.out]; exact (Ub.of_own (by simpa using hown1)).lower (Nat.zero_le _)
    exact Secs.put (fun x hx => (HR.out x hx).keep fun _ _ h => h.later qa) HM3.out HT3.out hub3 HI.out (kind_map (HM.out.later qa))
end Go.Proofs.YtildohndbeagaaaGreatDoor

namespace Go.Proofs.YtildohndbeagaaaGreatDoor
open Go Go.RowKit
set_option linter.unusedVariables false

theorem grown_of_below {w w' : World} (h : Below w.heap.size w w') : w.grownBy w' none := ⟨h.os, h.tape, h.output, h.size, fun i hi _ => h.block i hi⟩
/-- What the copying has done: those that are left are to come. -/
structure CpSt (w wr : World) (bm : Nat) (m : Int → Option Value) (f : SF) (n0 : Nat) (left : Int → Bool) (cnt : Nat) (mo : Int → Option Value) (no : Nat) : Prop where
  rg : RgV Tryz.prog 3 wr bm (w.heap.size + 1) m n0 left cnt
  out : MpV Tryz.prog 3 wr w.heap.size mo no
  come : ∀ x, InI x → left x = true → mo x = none
  done : ∀ x, InI x → left x = false → SecV wr (mo x) (f x)
  num : no + cnt ≤ n0
  below : Below w.heap.size w wr

set_option maxHeartbeats 4000000 in
set_option maxRecDepth 100000 in
theorem copied_any (bm n0 : Nat) (f : SF) (w : World) (hs : Secs w bm f n0) (hf : FinK f n0) :
    Calls Tryz.prog 49 #[.map (some bm)] w fun e w' => ∃ bo, e = .returned (.map (some bo)) ∧ w.heap.size ≤ bo ∧ Secs w' bo f n0 ∧ Below w.heap.size w w' := by
  obtain ⟨m, hm, hr⟩ := hs
  have hmm := @run_makeMap Tryz.prog
  have hbl := hm.lt
  have hn0 := hf.bound
  have e1 : (w.alloc (.map #[] 0)).heap.size = w.heap.size + 1 := by simp
  have HR := Lib.hid hr
  have HF := Lib.hid hf
  have HM := Lib.hid (hm.alloc (.map #[] 0))
  have hLeft : Hid (∀ a, ((m a).isSome && decide (-9223372036854775808 ≤ a) && decide (a ≤ 9223372036854775807)) = true ↔ InI a ∧ (m a).isSome = true) := fun a => by
    unfold InI
    simp only [Bool.and_eq_true, decide_eq_true_eq]
    exact ⟨fun h => ⟨⟨h.1.2, h.2⟩, h.1.1⟩, fun h => ⟨⟨h.2, h.1.1⟩, h.1.2⟩⟩
  clear hr hf hm
  go_enter Tryz.func49, Tryz.ntmps49
  go_wp2_with (first
    | (at_range; refine wpList_range_mp _ rfl _ 72 rfl intTy secTy rfl HM.out _ hLeft.out ?_; intro w0 hrg0 hg0 hs0)
    | fail)
  go_frame
  rw [e1] at hrg0 hs0 ⊢
  have S0 : CpSt w w0 bm m f n0 (fun a => (m a).isSome && decide (-9223372036854775808 ≤ a) && decide (a ≤ 9223372036854775807)) n0 (fun _ => none) 0 := by
    refine ⟨hrg0, (MpV.made _ _ w).at (hg0.block w.heap.size (by simp) (by simp)), fun _ _ _ => rfl, fun x hx hl => ?_, by omega, ((Below.refl _ _).alloc (Nat.le_refl _) _).grown hg0 (by simp) (fun j hj => by cases hj)⟩
    have h1 : (m x).isSome = false := by
      cases h2 : (m x).isSome with
      | false => rfl
      | true => have := (hLeft.out x).2 ⟨hx, h2⟩; rw [hl] at this; cases this
    have h3 := HR.out x hx
    have h4 := h3.some_iff
    rw [h1] at h4
    cases hfx : f x with
    | none => trivial
    | some l => rw [hfx] at h4; cases h4
  clear hrg0 hg0 hs0
  go_loopw [4, 5] (fun _ _ wr => ∃ (left : Int → Bool) (cnt : Nat) (mo : Int → Option Value) (no : Nat), CpSt w wr bm m f n0 left cnt mo no) (fun _ _ wr => wr.rangeLeft bm (w.heap.size + 1))
  case atStart => exact ⟨_, _, _, _, S0⟩
  case round =>
    clear S0
    obtain ⟨left, cnt, mo, no, hst⟩ := hrel
    have HST := Lib.hid hst
    have hrg := hst.rg
    clear hst
    go_wp2_with (first
      | (at_next; refine wpList_next_mp _ rfl _ rfl intTy rfl hrg ?_ ?_)
      | fail)
    · intro hc0 hl0
      go_wp2
      go_ret
      refine ⟨_, rfl, Nat.le_refl _, ⟨mo, ?_, fun x hx => HST.out.done x hx (hl0 x)⟩, HST.out.below⟩
      have h1 := HST.out.num
      obtain ⟨l, hl, hlo⟩ := HF.out
      have h2 := HST.out.out
      have h3 := h2.ge intTy hl.nodup fun x hx => by
        obtain ⟨y, hy, rfl⟩ := List.mem_map.1 hx
        have hi : InI y.1 := by have := hlo y hy; unfold SecOk at this; unfold InI; omega
        refine ⟨hi, ?_⟩
        rw [(HST.out.done y.1 hi (hl0 y.1)).some_iff]
        exact (hl.has y.1).2 hx
      rw [List.length_map, hl.len] at h3
      rw [show no = n0 by omega] at h2
      exact h2
    · intro x c w1 cnt1 hx hlx hmx hrg1 hlt hg1 hs1 hen
      have hsec := HR.out x hx
      rw [hmx] at hsec
      obtain ⟨l, hfx⟩ : ∃ l, f x = some l := by
        cases hfx : f x with
        | none => rw [hfx] at hsec; exact hsec.elim
        | some l => exact ⟨l, rfl⟩
      rw [hfx] at hsec
      have hub0 : Ub w 0 c l := hsec
      have q1 : Below w.heap.size w w1 := HST.out.below.grown hg1 HST.out.below.size (fun j hj => by cases hj; exact Nat.le_succ _)
      have hub := hub0.later q1
      obtain ⟨A, cp, rfl, _⟩ := hub.bs.at
      have hll : l.length ≤ 512 := (HF.out.at hfx).2.2
      have HU := Lib.hid hub
      have HX := Lib.hid hx
      have HFX := Lib.hid hfx
      have HLX := Lib.hid hlx
      have HRG := Lib.hid hrg1
      have HG1 := Lib.hid hg1
      have HOUT : Hid (MpV Tryz.prog 3 w1 w.heap.size mo no) := HST.out.out.at (hg1.block _ HST.out.out.lt (by simp))
      have hsz1 := q1.size
      have hnum := HST.out.num
      clear hsec hub0 hub hmx hrg1 hlx hfx hx hg1 hs1
      go_wp2_with (first
        | (at_builtin; refine wpList_append_bs _ rfl (.tmp 16) (.tmp 17) elemU8 rfl (Ob.made _ _ w1.heap.size (Nat.le_refl _) (by simp)) (Sl.alloc1 HU.out _) rfl rfl (by simp; omega) (by simp) ?_; intro A1 k1 c1 w2 hown1 hga hat1; have qa : Below w1.heap.size w1 w2 := below_grown_own ((Below.refl _ _).alloc (Nat.le_refl _) _) (Ob.made _ _ w1.heap.size (Nat.le_refl _) (by simp)) hga (by simp); obtain ⟨w3, hrun3, hm3, ht3⟩ := (HOUT.out.later qa).put intTy secTy (by unfold maxLen; omega) HX.out (.slice A1 k1 c1); have QA := Lib.hid qa; have HM3 := Lib.hid hm3; have HT3 := Lib.hid ht3; clear qa hm3 ht3)
        | fail)
      go_roundw
      case rel =>
        have hg3 : w1.grownBy w3 (some w.heap.size) := grown_then QA.out HT3.out.grown
        have hmox := HST.out.come x HX.out HLX.out
        have hub2 : Ub w2 0 (.slice A1 k1 c1) l := (Ub.of_own (by simpa using hown1)).lower (Nat.zero_le _)
        have hkz : kindAt w2 w.heap.size ≠ some (some 5) := by rw [kind_map (HOUT.out.later QA.out)]; simp
        have hkey : ∀ v l, Ub (wr) 0 v l → Ub w3 0 v l := fun v l h => Ub.other ((h.keep fun b hb => HG1.out.block b (by obtain ⟨_, cs, fz, hh⟩ := hb; exact lt_of_block hh) (fun e => by
          injection e with e
          subst e
          obtain ⟨_, cs, fz, hh⟩ := hb
          have := HST.out.rg
          obtain ⟨D, lf, h1, _⟩ := this
          obtain ⟨es, clock, since, seen, c0, _, _, _, _, hr0, _⟩ := h1
          rw [hr0] at hh
          cases hh)).later QA.out) hkz HT3.out.grown
        refine ⟨_, cnt1, _, _, ⟨HRG.out.kept hg3 (fun e => by have := Option.some.inj e; omega) (fun e => by have := Option.some.inj e; omega), HM3.out, fun z hz hl => ?_, fun z hz hl => ?_, ?_, (q1.grown hg3 hsz1 (fun j hj => by cases hj; exact Nat.le_refl _))⟩⟩
        · simp only [Bool.and_eq_true, Bool.not_eq_true', beq_eq_false_iff_ne] at hl
          rw [if_neg hl.2]
          exact HST.out.come z hz hl.1
        · by_cases hzx : z = x
          · subst hzx
            simp only [if_true, HFX.out]
            exact hub2.other hkz HT3.out.grown
          · simp only [hzx, if_false]
            have hlz : left z = false := by
              cases h : left z with
              | false => rfl
              | true => rw [h] at hl; simp [hzx] at hl
            exact (HST.out.done z hz hlz).keep hkey
        · unfold nPut
          rw [hmox]
          simp only [Option.isSome_none, Bool.false_eq_true, if_false]
          omega
      case measure =>
        have hg3 : w1.grownBy w3 (some w.heap.size) := grown_then QA.out HT3.out.grown
        have hrg3 := HRG.out.kept hg3 (fun e => by have := Option.some.inj e; omega) (fun e => by have := Option.some.inj e; omega)
        rw [hrg3.left_eq, HST.out.rg.left_eq]
        exact hlt
end Go.Proofs.YtildohndbeagaaaGreatDoor

namespace Go.Proofs.YtildohndbeagaaaGreatDoor
open Go Go.RowKit
set_option linter.unusedVariables false

theorem below_grownBy {w w' : World} (h : Below w.heap.size w w') (row : Option Nat) : w.grownBy w' row := ⟨h.os, h.tape, h.output, h.size, fun k hk _ => h.block k hk⟩
theorem grown_put (w : World) (g i : Nat) (u : Value) : w.grownBy (w.setCell ⟨g, i, none⟩ u) (some g) :=
  ⟨rfl, rfl, rfl, by simp, fun k _ hk => heap_setCell_other w ⟨g, i, none⟩ k u (fun e => hk (by simp [e]))⟩
theorem grown_below {w w' : World} {g B : Nat} (h : w.grownBy w' (some g)) (hg : B ≤ g) (hB : B ≤ w.heap.size) : Below B w w' := (Below.refl _ _).grown h hB (fun k hk => by cases hk; exact hg)

/-- A writer without a fault: its bytes lie in blocks from B on. -/
def Wr (w : World) (g B : Nat) (l : List UInt8) : Prop := ∃ A k c, Blk w g 162 #[.slice A k c, .int .i64 0] ∧ Ob 5 w B (.slice A k c) l
theorem Wr.later {w w' : World} {g B : Nat} {l : List UInt8} (h : Wr w g B l) (hb : Below w.heap.size w w') : Wr w' g B l := by
  obtain ⟨A, k, c, h1, h2⟩ := h
  exact ⟨A, k, c, h1.later hb, h2.later hb⟩
theorem Wr.lower {w : World} {g B B' : Nat} {l : List UInt8} (h : Wr w g B l) (hB : B' ≤ B) : Wr w g B' l := by
  obtain ⟨A, k, c, h1, h2⟩ := h
  exact ⟨A, k, c, h1, h2.lower hB⟩
theorem Wr.alloc {w : World} {g B : Nat} {l : List UInt8} (h : Wr w g B l) (o : Obj) : Wr (w.alloc o) g B l := h.later ((Below.refl _ _).alloc (Nat.le_refl _) _)
/-- A block of another type is written. -/
theorem Wr.far {w : World} {g B : Nat} {l : List UInt8} (h : Wr w g B l) {g' : Nat} {t : TypeId} {cs : Array Value} (hb : Blk w g' t cs) (h1 : t ≠ 162) (h2 : 5 ≠ t) (i : Nat) (u : Value) : Wr (w.setCell ⟨g', i, none⟩ u) g B l := by
  obtain ⟨A, k, c, h3, h4⟩ := h
  exact ⟨A, k, c, h3.far (p := ⟨g', i, none⟩) (fun e => Blk.ne h3 hb (fun h => h1 h.symm) e) _, own_set h4 hb h2 i u⟩

set_option maxHeartbeats 400000 in
theorem write_any (w : World) :
    Calls Tryz.prog 70 #[] w fun e w' => e = .returned (.pointer (some ⟨w.heap.size, 0, none⟩)) ∧ Wr w' w.heap.size w.heap.size [] ∧ Below w.heap.size w w' ∧ w'.heap.size = w.heap.size + 1 := by
  go_enter Tryz.func70, Tryz.ntmps70
  go_wp2_with fail
  go_ret
  exact ⟨rfl, ⟨none, 0, 0, Blk.new _ _ _, Ob.nil _ _ _⟩, (Below.refl _ _).alloc (Nat.le_refl _) _, by simp⟩

def nums (xs : List Nat) : List Value := xs.map fun (x : Nat) => .int .u64 (x : Int)
theorem nums_at {xs : List Nat} {j : Nat} (h : j < xs.length) : (nums xs)[j]? = some (.int .u64 (xs[j] : Int)) := by simp [nums, List.getElem?_eq_getElem h]
theorem vars_len (xs : List Nat) (h : ∀ x ∈ xs, x < U64) : (xs.flatMap varB).length ≤ 10 * xs.length := by
  induction xs with
  | nil => simp
  | cons x xs ih =>
    have h1 := varB_le10 (h x (by simp))
    have h2 := ih (fun y hy => h y (by simp [hy]))
    rw [List.flatMap_cons, List.length_append, List.length_cons]
    omega
theorem vars_take_succ {xs : List Nat} {i : Nat} (h : i < xs.length) : (xs.take (i + 1)).flatMap varB = (xs.take i).flatMap varB ++ varB xs[i] := by
  rw [List.take_succ_eq_append_getElem h, List.flatMap_append]; simp

set_option maxHeartbeats 1000000 in
set_option maxRecDepth 100000 in
/-- The bytes that a number more gives lie in a new block. -/
theorem wnum_new (g B B' : Nat) (l : List UInt8) (xs : List Nat) (v0 : Value) (w : World) (hw : Wr w g B l) (hB : B ≤ w.heap.size) (hB' : xs.length = 0 → B' ≤ B) (hB2 : B' ≤ w.heap.size) (hx : ∀ x ∈ xs, x < U64) (hl : l.length + 10 * xs.length ≤ 1099511627776)
    (hv : Sl (fun b => b ≠ g ∧ b < w.heap.size) w 1 v0 xs.length (nums xs)) :
    Calls Tryz.prog 71 #[.pointer (some ⟨g, 0, none⟩), v0] w fun e w' => e = .returned (.tuple #[]) ∧ Wr w' g B' (l ++ xs.flatMap varB) ∧ w.grownBy w' (some g) := by
  have HV := Lib.hid hv
  obtain ⟨_, A0, c0, rfl, hnc, hcm, hA0, hA⟩ := hv
  have HA := Lib.hid hA
  have hml : xs.length ≤ 109951162777 := by omega
  have HX := Lib.hid hx
  have R0 : Wr w g (if 0 < 0 then w.heap.size else B) (l ++ (xs.take 0).flatMap varB) ∧ w.grownBy w (some g) := ⟨by simpa using hw, World.grownBy.refl _ _⟩
  clear hA hx hw
  go_enter Tryz.func71, Tryz.ntmps71
  go_wp2_with fail
  go_loopw [5, 8] (fun _ iv wr => ∃ i : Nat, iv = .int .i64 (i : Int) ∧ i ≤ xs.length ∧ Wr wr g (if 0 < i then w.heap.size else B) (l ++ (xs.take i).flatMap varB) ∧ w.grownBy wr (some g)) (fun _ iv _ => xs.length - (intOf iv).toNat)
  case atStart => exact ⟨0, rfl, by omega, R0⟩
  case round =>
    obtain ⟨i, rfl, hi, hwr, hgr⟩ := hrel
    clear R0
    have hsz := hgr.size
    by_cases hil : i < xs.length
    · obtain ⟨b, o, rfl, ⟨hbg, hbl⟩, hcell⟩ := HA.out (by omega)
      have hcw := hcell i _ (nums_at hil)
      have hc : wr.cell? ⟨b, o + i, none⟩ = some (.int .u64 (xs[i] : Int)) := by
        rw [World.cell?_of_block (hgr.block b hbl (by simpa using hbg))]
        exact hcw
      have hx := HX.out _ (List.getElem_mem hil)
      have hlen : (l ++ (xs.take i).flatMap varB).length ≤ l.length + 10 * i := by
        have h1 := vars_len (xs.take i) (fun x hx => HX.out x (List.mem_of_mem_take hx))
        rw [List.length_take] at h1
        rw [List.length_append]
        omega
      have hvx := varB_le10 hx
      have HS := Lib.hid (vars_take_succ hil)
      have hsz' : (if 0 < i + 1 then w.heap.size else B) ≤ wr.heap.size := by rw [if_pos (by omega)]; exact hsz
      have HSZ := Lib.hid hsz'
      obtain ⟨A, k, c, hbk, hown⟩ := hwr
      clear hsz'
      have d0 : wr.cell? ⟨g, 0, none⟩ = some (.slice A k c) := hbk.cell 0
      have d1 : wr.cell? ⟨g, 1, none⟩ = some (.int .i64 0) := hbk.cell 1
      generalize xs[i] = x at *
      clear hcell hcw
      go_wp2_with fail
      refine (putVar_any _ _ _ x wr hx (by rw [List.length_append]; omega) hown.bs).mono ?_
      rintro e w2 ⟨A2, k2, c2, rfl, hown2, hbl2⟩
      have hbk2 := hbk.later hbl2
      have e1 := hbk2.free 0
      have e0 : w2.cell? ⟨g, 0, none⟩ = some (.slice A k c) := hbk2.cell 0
      go_wp2_with fail
      go_roundw
      case rel => exact ⟨i + 1, by go_num, by omega, ⟨A2, k2, c2, hbk2.put 0 _, by rw [HS.out, ← List.append_assoc]; exact own_set (hown2.lower HSZ.out) hbk2 (by decide) 0 _⟩, (hgr.trans (below_grownBy hbl2 _)).trans (grown_put _ _ _ _)⟩
      case measure => simp [intOf]; omega
    · obtain rfl : i = xs.length := by omega
      rw [List.take_length] at hwr
      have HW : Hid (Wr wr g B' (l ++ xs.flatMap varB)) := hwr.lower (by split <;> omega)
      clear hwr hB'
      go_wp2_with fail
      go_end0
      exact ⟨rfl, HW.out, hgr⟩

theorem wnum_any (g B : Nat) (l : List UInt8) (xs : List Nat) (v0 : Value) (w : World) (hw : Wr w g B l) (hB : B ≤ w.heap.size) (hgB : B ≤ g) (hx : ∀ x ∈ xs, x < U64) (hl : l.length + 10 * xs.length ≤ 1099511627776)
    (hv : Sl (fun b => b ≠ g ∧ b < w.heap.size) w 1 v0 xs.length (nums xs)) :
    Calls Tryz.prog 71 #[.pointer (some ⟨g, 0, none⟩), v0] w fun e w' => e = .returned (.tuple #[]) ∧ Wr w' g B (l ++ xs.flatMap varB) ∧ w.grownBy w' (some g) := by
  exact wnum_new g B B l xs v0 w hw hB (fun _ => Nat.le_refl _) hB hx hl hv
/-- What is written into blocks that are new since w is no change of w's. -/
theorem grown_new {w w2 w3 : World} {row r2 : Option Nat} (h : w.grownBy w2 row) (h2 : w2.grownBy w3 r2) (hk : ∀ k, r2 = some k → w.heap.size ≤ k) : w.grownBy w3 row :=
  ⟨h2.os.trans h.os, h2.tape.trans h.tape, h2.output.trans h.output, Nat.le_trans h.size h2.size, fun k hlt hr => (h2.block k (Nat.lt_of_lt_of_le hlt h.size) (fun e => by have := hk k e.symm; omega)).trans (h.block k hlt hr)⟩

set_option maxHeartbeats 1000000 in
set_option maxRecDepth 100000 in
theorem wbytes_any (g B : Nat) (l : List UInt8) (w : World) (hw : Wr w g B l) (hl : l.length ≤ 1099511627776) :
    Calls Tryz.prog 73 #[.pointer (some ⟨g, 0, none⟩)] w fun e w' => ∃ A k c, e = .returned (.tuple #[.slice A k c, .int .i64 0]) ∧ Ob 5 w' w.heap.size (.slice A k c) l ∧ Below w.heap.size w w' := by
  obtain ⟨A, k, c, hbk, hown⟩ := hw
  have d0 : w.cell? ⟨g, 0, none⟩ = some (.slice A k c) := hbk.cell 0
  have d1 : w.cell? ⟨g, 1, none⟩ = some (.int .i64 0) := hbk.cell 1
  have hg := hbk.lt
  obtain rfl := hown.len
  have HB := Lib.hid hown.bs
  clear hown hbk
  go_enter Tryz.func73, Tryz.ntmps73
  go_wp2_with (at_builtin; (refine wpList_append_bs _ rfl (.tmp 13) (.tmp 17) elemU8 rfl (Ob.made _ _ w.heap.size (Nat.le_refl _) (by simp)) (Sl.alloc1 HB.out _) rfl rfl (by simp; omega) (by simp) ?_); intro A1 k1 c1 w1 hown1 hg1 hat1)
  go_ret2
  exact ⟨A1, k1, c1, rfl, by simpa using hown1, below_grown_own ((Below.refl _ _).alloc (Nat.le_refl _) _) (Ob.made _ _ w.heap.size (Nat.le_refl _) (by simp)) hg1 (by simp)⟩
end Go.Proofs.YtildohndbeagaaaGreatDoor

namespace Go.Proofs.YtildohndbeagaaaGreatDoor
open Go Go.RowKit
set_option linter.unusedVariables false

theorem strCells_st (l : List UInt8) : Lib.strCells (st l) = bv l := by
  simp [Lib.strCells, bv, st]

theorem wpList_append_st {P : Program} (w : World) {ops : Array Oper} {rest : List Oper} {o : Oper} {a : Act} {Q : Exit → Act → World → Prop} (hgd : o.guard = none) (s x : Operand) {t u e : TypeId}
    (E : Elem P t e (.int .u8 0) 1 1) (hu : P.underlying u = some .string) (ho : o.op = .call { callee := .builtin .append, args := #[s, x], argTypes := #[t, u] })
    {base : Nat} {v : Value} {l : List UInt8} (hown : Ob e w base v l) {m : List UInt8} (hs : a.eval s = v) (hx : a.eval x = .string (st m))
    (hlen : l.length + m.length ≤ 140737488355328) (hbase : base ≤ w.heap.size)
    (h : ∀ A k c w', Ob e w' base (.slice A k c) (l ++ m) → w.grownBy w' v.ownBlock → wpList P ops Q rest (a.put o.dst (.slice A k c)) w') :
    wpList P ops Q (o :: rest) a w := by
  obtain ⟨i, hi, hz, hsz, hby⟩ := E.info
  refine Lib.wpList_append_own_string w hgd s x t u ho base e i E.under hu hi hz hsz hby v l.length (bv l) hs hown (st m) hx (by rw [st_size]; simp only [maxLen]; omega) (by rw [st_size]; exact hlen) hbase fun v' w' h2 h3 _ => ?_
  obtain ⟨A, k, c, rfl⟩ := own_slice h2
  refine h A k c w' ?_ h3
  rw [st_size, strCells_st] at h2
  unfold Ob
  rw [bv_append, List.length_append]
  exact h2

end Go.Proofs.YtildohndbeagaaaGreatDoor

namespace Go.Proofs.YtildohndbeagaaaGreatDoor
open Go Go.RowKit
set_option linter.unusedVariables false

/-- A new block of one cell reads as that cell. -/
theorem Sl.new1 {S : Nat → Prop} (w : World) (e : TypeId) (u : Value) {g : Nat} (hg : g = w.heap.size) (hS : S g) : Sl S (w.alloc (.cells #[u] e)) 1 (.slice (some ⟨g, 0, none⟩) 1 1) 1 [u] := by
  subst hg
  refine ⟨by simp, _, 1, rfl, by simp, by simp [maxLen], (fun h => by cases h), fun _ => ⟨_, 0, rfl, hS, fun j v hu => ?_⟩⟩
  rcases j with _ | j
  · simp at hu
    subst hu
    rw [World.cell?_alloc_new]
    rfl
  · simp at hu

def textB (s : List UInt8) : List UInt8 := varB s.length ++ s
def txts (ss : List (List UInt8)) : List Value := ss.map fun s => .string (st s)
theorem txts_at {xs : List (List UInt8)} {j : Nat} (h : j < xs.length) : (txts xs)[j]? = some (.string (st xs[j])) := by simp [txts, List.getElem?_eq_getElem h]
theorem textB_len {s : List UInt8} (h : s.length ≤ 65536) : (textB s).length ≤ 65546 := by
  unfold textB
  have := varB_le10 (show s.length < U64 by unfold U64; omega)
  rw [List.length_append]
  omega
theorem texts_len (xs : List (List UInt8)) (h : ∀ x ∈ xs, x.length ≤ 65536) : (xs.flatMap textB).length ≤ 65546 * xs.length := by
  induction xs with
  | nil => simp
  | cons x xs ih =>
    have h1 := textB_len (h x (by simp))
    have h2 := ih (fun y hy => h y (by simp [hy]))
    rw [List.flatMap_cons, List.length_append, List.length_cons]
    omega
theorem texts_take_succ {xs : List (List UInt8)} {i : Nat} (h : i < xs.length) : (xs.take (i + 1)).flatMap textB = (xs.take i).flatMap textB ++ textB xs[i] := by
  rw [List.take_succ_eq_append_getElem h, List.flatMap_append]; simp

set_option maxHeartbeats 1000000 in
set_option maxRecDepth 100000 in
theorem wtext_any (g B : Nat) (l : List UInt8) (xs : List (List UInt8)) (v0 : Value) (w : World) (hw : Wr w g B l) (hB : B ≤ w.heap.size) (hgB : B ≤ g) (hx : ∀ x ∈ xs, x.length ≤ 65536) (hl : l.length + 65546 * xs.length ≤ 1099511627776)
    (hv : Sl (fun b => b ≠ g ∧ b < w.heap.size) w 1 v0 xs.length (txts xs)) :
    Calls Tryz.prog 95 #[.pointer (some ⟨g, 0, none⟩), v0] w fun e w' => e = .returned (.tuple #[]) ∧ Wr w' g B (l ++ xs.flatMap textB) ∧ w.grownBy w' (some g) := by
  have HV := Lib.hid hv
  obtain ⟨_, A0, c0, rfl, hnc, hcm, hA0, hA⟩ := hv
  have HA := Lib.hid hA
  have hml : xs.length ≤ 16777216 := by omega
  have HX := Lib.hid hx
  have R0 : Wr w g B (l ++ (xs.take 0).flatMap textB) ∧ w.grownBy w (some g) := ⟨by simpa using hw, World.grownBy.refl _ _⟩
  clear hA hx hw
  go_enter Tryz.func95, Tryz.ntmps95
  go_wp2_with fail
  go_loopw [5, 8] (fun _ iv wr => ∃ i : Nat, iv = .int .i64 (i : Int) ∧ i ≤ xs.length ∧ Wr wr g B (l ++ (xs.take i).flatMap textB) ∧ w.grownBy wr (some g)) (fun _ iv _ => xs.length - (intOf iv).toNat)
  case atStart => exact ⟨0, rfl, by omega, R0⟩
  case round =>
    obtain ⟨i, rfl, hi, hwr, hgr⟩ := hrel
    clear R0
    have hsz := hgr.size
    by_cases hil : i < xs.length
    · obtain ⟨b, o, rfl, ⟨hbg, hbl⟩, hcell⟩ := HA.out (by omega)
      have hcw := hcell i _ (txts_at hil)
      have hc : wr.cell? ⟨b, o + i, none⟩ = some (.string (st xs[i])) := by
        rw [World.cell?_of_block (hgr.block b hbl (by simpa using hbg))]
        exact hcw
      have hx := HX.out _ (List.getElem_mem hil)
      have hlen : (l ++ (xs.take i).flatMap textB).length ≤ l.length + 65546 * i := by
        have h1 := texts_len (xs.take i) (fun x hx => HX.out x (List.mem_of_mem_take hx))
        rw [List.length_take] at h1
        rw [List.length_append]
        omega
      have HS := Lib.hid (texts_take_succ hil)
      obtain ⟨A, k, c, hbk, hown⟩ := id hwr
      have d1 : wr.cell? ⟨g, 1, none⟩ = some (.int .i64 0) := hbk.cell 1
      have hgl := hbk.lt
      generalize xs[i] = x at *
      have t0 : decide (65536 < x.length) = false := by rw [decide_eq_false_iff_not]; omega
      have hv10 := varB_le10 (show x.length < U64 by unfold U64; omega)
      have HW := Lib.hid hwr
      clear hcell hcw hbk hown hwr
      go_wp2_with fail
      refine (wnum_new g B wr.heap.size (l ++ (xs.take i).flatMap textB) [x.length] _ _ (HW.out.alloc _) (by simp; omega) (by intro h; simp at h) (by simp) (by intro y hy; simp at hy; subst hy; unfold U64; omega) (by have := hlen; simp only [List.length_cons, List.length_nil]; omega) (Sl.new1 wr _ _ (by simp) ⟨by omega, by simp⟩)).mono ?_
      rintro e w2 ⟨rfl, hw2, hg2⟩
      have hsz2 := hg2.size
      simp only [List.flatMap_cons, List.flatMap_nil, List.append_nil] at hw2
      obtain ⟨A2, k2, c2, hbk2, hown2⟩ := hw2
      have e0 : w2.cell? ⟨g, 0, none⟩ = some (.slice A2 k2 c2) := hbk2.cell 0
      have e1 : w2.cell? ⟨g, 1, none⟩ = some (.int .i64 0) := hbk2.cell 1
      have hs2 : wr.heap.size ≤ w2.heap.size := by simp at hsz2; omega
      have hg2' : w.grownBy w2 (some g) := (hgr.trans (below_grownBy ((Below.refl _ _).alloc (Nat.le_refl _) _) _)).trans hg2
      have hll : (l ++ (xs.take i).flatMap textB ++ varB x.length).length + x.length ≤ 140737488355328 := by rw [List.length_append]; omega
      go_wp2_with (at_builtin; go_loud (refine wpList_append_st _ rfl (.tmp 40) (.tmp 41) elemU8 tS rfl hown2 rfl rfl hll hs2 ?_); intro A3 k3 c3 w3 hown3 hg3; have hbk3 := hbk2.kept hown2 hg3 (by decide); have d0 : w3.cell? ⟨g, 0, none⟩ = some (.slice A2 k2 c2) := hbk3.cell 0; have f0 := hbk3.free 0)
      go_roundw
      case rel =>
        refine ⟨i + 1, by go_num, by omega, ⟨A3, k3, c3, hbk3.put 0 _, ?_⟩, ?_⟩
        · rw [HS.out, ← List.append_assoc]
          have := own_set (Ob.lower hown3 (show B ≤ _ by omega)) hbk3 (by decide) 0 (.slice A3 k3 c3)
          unfold textB at *
          rw [← List.append_assoc]
          exact this
        · exact (grown_new hg2' hg3 (fun k hk => Nat.le_trans hsz (hown2.lt k hk).1)).trans (grown_put _ _ _ _)
      case measure => simp [intOf]; omega
    · obtain rfl : i = xs.length := by omega
      rw [List.take_length] at hwr
      go_wp2_with fail
      go_end0
      exact ⟨rfl, hwr, hgr⟩
end Go.Proofs.YtildohndbeagaaaGreatDoor

namespace Go.Proofs.YtildohndbeagaaaGreatDoor
open Go Go.RowKit
set_option linter.unusedVariables false

theorem below_of_grown {w w' : World} (h : w.grownBy w' none) : Below w.heap.size w w' := ⟨h.os, h.tape, h.output, h.size, fun i hi => h.block i hi (by simp)⟩
theorem Secs.row {w w' : World} {b n : Nat} {f : SF} {row : Option Nat} (h : Secs w b f n) (hz : ∀ z, row = some z → b ≠ z ∧ kindAt w z ≠ some (some 5)) (hg : w.grownBy w' row) : Secs w' b f n := by
  cases row with
  | none => exact h.later (below_of_grown hg)
  | some z => exact h.other (hz z rfl).1 (hz z rfl).2 hg
theorem PnIs.row {w w' : World} {v : Value} {p : Pnd} {row : Option Nat} (h : PnIs w v p) (hz : ∀ z, row = some z → ∀ t ∈ pnKinds, kindAt w z ≠ some (some t)) (hg : w.grownBy w' row) : PnIs w' v p := by
  cases row with
  | none => exact h.later (below_of_grown hg)
  | some z => exact h.other (hz z rfl) hg
theorem elemPn : Elem Tryz.prog 73 113 .nilFunc 1 8 := Elem.mk' Tryz.underlying73 (by kernel_rfl) rfl (by omega)
theorem tornB_nat (b o : List UInt8) (n : Int) : tornB b o ((n.toNat : Nat) : Int) = tornB b o n := by unfold tornB; rw [Int.toNat_natCast]
theorem kind_alloc {w : World} {b : Nat} (o : Obj) (hb : b < w.heap.size) : kindAt (w.alloc o) b = kindAt w b := by unfold kindAt; rw [Below.heap_alloc w o b hb]

/-- What a closure does to the sectors that it is given. -/
theorem closure_any {w : World} {v : Value} {p : Pnd} {bm n0 : Nat} {f : SF} {n : Int} (hp : PnIs w v p) (hpo : PnOk p) (hs : Secs w bm f n0) (hf : FinK f n0) (hn : InI n) {Q : Ending → World → Prop}
    (hQ : ∀ w', Secs w' bm (doP (f, n0) p n).1 (doP (f, n0) p n).2 → w.grownBy w' (some bm) → Q (.returned (.tuple #[])) w') :
    ∃ fn caps, v = .func (Fn.func fn) #[] caps ∧ ∀ args, args = #[.map (some bm), .int .i64 n] ++ caps → Calls Tryz.prog fn args w Q := by
  cases p with
  | wr a b =>
    obtain ⟨ga, A, c, rfl, h1, h2, h3⟩ := hp
    refine ⟨_, _, rfl, fun args ha => ?_⟩
    subst ha
    have ho : ((f a).getD []).length ≤ 512 := by
      cases hfa : f a with
      | none => simp
      | some o => exact (hf.at hfa).2.2
    have hi : InI a := by have := hpo.1; have := hpo.2.1; unfold InI; omega
    refine (wclos_at ga (ga + 1) A c a b bm n0 f n n.toNat w h1 h2 h3 hs hf.bound hi hpo.2.2 ho (by omega) (by unfold InI at hn; omega)).mono ?_
    rintro e w' ⟨rfl, h4, h5⟩
    rw [tornB_nat] at h4
    exact hQ w' h4 h5
  | fr a =>
    obtain ⟨ga, rfl, h1⟩ := hp
    refine ⟨_, _, rfl, fun args ha => ?_⟩
    subst ha
    have hi : InI a := by have := hpo.1; have := hpo.2; unfold InI; omega
    refine (fclos_any ga a bm n0 f n w h1 hs hi).mono ?_
    rintro e w' ⟨rfl, h4, h5⟩
    exact hQ w' h4 h5

set_option maxHeartbeats 1000000 in
theorem dnew_any (n : Int) (w : World) (h1 : 1 ≤ n) (h2 : n ≤ 65536) :
    Calls Tryz.prog 8 #[.int .i64 n] w fun e w' => ∃ h, e = .returned (.tuple #[.pointer (some ⟨h.g, 0, none⟩), .int .i64 0]) ∧ Dk w' h (Dsk.new n) ∧ (∀ b, h.has b → w.heap.size ≤ b) ∧ Below w.heap.size w w' := by
  have hmm := @run_makeMap Tryz.prog
  have i1 : ¬ n < 1 := by omega
  have i2 : ¬ 65536 < n := by omega
  go_enter Tryz.func8, Tryz.ntmps8
  go_wp2_with fail
  go_ret2
  have s1 : (w.alloc (.map #[] 0)).heap.size = w.heap.size + 1 := by simp
  have s2 : ((w.alloc (.map #[] 0)).alloc (.map #[] 0)).heap.size = w.heap.size + 1 + 1 := by simp
  have q1 : Below (w.heap.size + 1) (w.alloc (.map #[] 0)) ((w.alloc (.map #[] 0)).alloc (.map #[] 0)) := by
    have := (Below.refl (w.alloc (.map #[] 0)).heap.size (w.alloc (.map #[] 0))).alloc (Nat.le_refl _) (.map #[] 0)
    rwa [s1] at this
  have m1 := Secs.made w
  have m2 := Secs.made (w.alloc (.map #[] 0))
  rw [s1] at m2
  have m1' : Secs ((w.alloc (.map #[] 0)).alloc (.map #[] 0)) w.heap.size (fun _ => none) 0 := m1.later (by rw [s1]; exact q1)
  have b3 := Blk.new ((w.alloc (.map #[] 0)).alloc (.map #[] 0)) 75 #[.int .i64 n, .int .i64 n, .map (some w.heap.size), .map (some (w.heap.size + 1)), .slice none 0 0]
  rw [s2] at b3
  have q3 := (Below.refl ((w.alloc (.map #[] 0)).alloc (.map #[] 0)).heap.size ((w.alloc (.map #[] 0)).alloc (.map #[] 0))).alloc (Nat.le_refl _) (.cells #[.int .i64 n, .int .i64 n, .map (some w.heap.size), .map (some (w.heap.size + 1)), .slice none 0 0] 75)
  refine ⟨⟨w.heap.size + 1 + 1, w.heap.size, w.heap.size + 1, .slice none 0 0⟩, rfl, ⟨b3, m1'.later q3, m2.later q3, by simp, [], World.ownsRow_nil _ _ _ _, PnL.nil _⟩, fun b hb => ?_, (((Below.refl _ _).alloc (Nat.le_refl _) _).alloc (by simp) _).alloc (by simp; omega) _⟩
  rcases hb with h | h | h | h
  · simp only at h; omega
  · simp only at h; omega
  · simp only at h; omega
  · cases h
set_option maxHeartbeats 1000000 in
theorem dnew_bad (n : Int) (w : World) (h : n < 1 ∨ 65536 < n) :
    Calls Tryz.prog 8 #[.int .i64 n] w fun e w' => e = .returned (.tuple #[.pointer none, .int .i64 60]) ∧ Below w.heap.size w w' := by
  rcases Decidable.em (n < 1) with h0 | h0
  case' inl => have hx := h0
  case' inr => have hx : 65536 < n := h.resolve_left h0
  all_goals
    clear h
    go_enter Tryz.func8, Tryz.ntmps8
    go_wp2_with fail
    go_ret2
    exact ⟨rfl, Below.refl _ _⟩

theorem grown_cell {w : World} {g i : Nat} (u : Value) : w.grownBy (w.setCell ⟨g, i, none⟩ u) (some g) := ⟨rfl, rfl, rfl, by simp, fun k hk hne => Below.heap_setCell w ⟨g, i, none⟩ u k (fun e => hne (by rw [e]))⟩
theorem ddo_fin {w w1 : World} {g bv bg k1 c0 c1 : Nat} {A0 A1 : Option Addr} {vs : List Value} {D : Dsk} {pv : Value} {p : Pnd} {n : Int} {row : Obj} (hd : Dk w ⟨g, bv, bg, .slice A0 vs.length c0⟩ D) (hok : D.Ok) (hp : PnIs w pv p) (hpo : PnOk p) (hn : InI n)
    (hown : Ow 113 (w.alloc row) 0 (.slice A0 vs.length c0) vs) (hpl : PnL w vs D.pend) (hown1 : w1.ownsRow 0 113 1 (.slice A1 k1 c1) (vs.length + 1) (vs ++ [pv])) (hga : (w.alloc row).grownBy w1 (Value.slice A0 vs.length c0).ownBlock)
    (hat : (Value.slice A1 k1 c1).ownBlock = (Value.slice A0 vs.length c0).ownBlock ∨ (Value.slice A1 k1 c1).ownBlock = some (w.alloc row).heap.size) {fn : FuncId} {args : Array Value}
    (hv : ∃ caps, pv = .func (Fn.func fn) #[] caps ∧ args = #[.map (some bv), .int .i64 n] ++ caps) :
    Calls Tryz.prog fn args (w1.setCell ⟨g, 4, none⟩ (.slice A1 k1 c1)) fun e w' => e = .returned (.tuple #[]) ∧ Dk w' ⟨g, bv, bg, .slice A1 k1 c1⟩ (D.put p n) ∧ Stp ⟨g, bv, bg, .slice A0 vs.length c0⟩ w ⟨g, bv, bg, .slice A1 k1 c1⟩ w' := by
  have qa : Below w.heap.size w (w.alloc row) := (Below.refl _ _).alloc (Nat.le_refl _) _
  have d1 := hd.later qa
  have kz : ∀ z, (Value.slice A0 vs.length c0).ownBlock = some z → kindAt (w.alloc row) z = some (some 113) := fun z hz => kind_own hown hz
  have kv := d1.view.kind
  have kg := d1.ground.kind
  simp only at kv kg
  have row1 : ∀ {b m : Nat} {f : SF}, Secs (w.alloc row) b f m → Secs w1 b f m := fun hs => hs.row (fun z hz => ⟨(fun e => by subst e; have h1 := kz _ hz; rw [hs.kind] at h1; cases h1), (by rw [kz z hz]; decide)⟩) hga
  have v1 := row1 d1.view
  have g1 := row1 d1.ground
  have b1 := d1.blk.kept hown hga (by decide)
  have p1 : ∀ {v : Value} {q : Pnd}, PnIs (w.alloc row) v q → PnIs w1 v q := fun h => h.row (fun z hz t ht => by rw [kz z hz]; revert ht; simp only [pnKinds, List.mem_cons, List.not_mem_nil, or_false]; rintro (rfl | rfl | rfl) <;> decide) hga
  have kd1 : kindAt w1 g = some (some 75) := kind_blk b1
  have gc := grown_cell (w := w1) (g := g) (i := 4) (.slice A1 k1 c1)
  have v2 : Secs (w1.setCell ⟨g, 4, none⟩ (.slice A1 k1 c1)) bv D.view D.nv := v1.other (fun e => by have := v1.kind; simp only at e this; rw [e, kd1] at this; cases this) (by rw [kd1]; decide) gc
  have g2 : Secs (w1.setCell ⟨g, 4, none⟩ (.slice A1 k1 c1)) bg D.ground D.ng := g1.other (fun e => by have := g1.kind; simp only at e this; rw [e, kd1] at this; cases this) (by rw [kd1]; decide) gc
  have p2 : ∀ {v : Value} {q : Pnd}, PnIs w1 v q → PnIs (w1.setCell ⟨g, 4, none⟩ (.slice A1 k1 c1)) v q := fun h => h.other (fun t ht => by rw [kd1]; revert ht; simp only [pnKinds, List.mem_cons, List.not_mem_nil, or_false]; rintro (rfl | rfl | rfl) <;> decide) gc
  have b2 := b1.put 4 (.slice A1 k1 c1)
  have o2 : Ow 113 (w1.setCell ⟨g, 4, none⟩ (.slice A1 k1 c1)) 0 (.slice A1 k1 c1) (vs ++ [pv]) := by
    unfold Ow
    rw [List.length_append]
    exact own_set hown1 b1 (by decide) 4 _
  have kv2 := v2.kind
  have hQ : ∀ w3, Secs w3 bv (doP (D.view, D.nv) p n).1 (doP (D.view, D.nv) p n).2 → (w1.setCell ⟨g, 4, none⟩ (.slice A1 k1 c1)).grownBy w3 (some bv) →
      Ending.returned (.tuple #[]) = Ending.returned (.tuple #[]) ∧ Dk w3 ⟨g, bv, bg, .slice A1 k1 c1⟩ (D.put p n) ∧ Stp ⟨g, bv, bg, .slice A0 vs.length c0⟩ w ⟨g, bv, bg, .slice A1 k1 c1⟩ w3 := by
    intro w3 hs3 hg3
    refine ⟨rfl, ?_, ?_⟩
    · have hbg : bg ≠ bv := fun e => hd.ne e.symm
      refine ⟨b2.grown hg3 (fun e => ?_), hs3, g2.other hbg (by rw [kv2]; decide) hg3, hd.ne, vs ++ [pv], o2.other (fun e => ?_) hg3, (PnL.keep (hpl.keep fun v q h => p2 (p1 (h.later qa))) fun v q h => ?_).snoc ?_⟩
      · injection e with e
        have e2 : g = bv := by first | exact e | exact e.symm
        exact absurd ((kind_blk b2).symm.trans ((congrArg (kindAt _) e2).trans kv2)) (by simp)
      · have := kind_own o2 e
        rw [kv2] at this
        cases this
      · exact h.other (fun t ht => by rw [kv2]; simp) hg3
      · exact (p2 (p1 (hp.later qa))).other (fun t ht => by rw [kv2]; simp) hg3
    · refine ⟨rfl, ?_, fun b hb => ?_⟩
      · have t1 : Turn (Zn.has ⟨g, bv, bg, .slice A0 vs.length c0⟩) w w1 := (Turn.of_below qa).trans (Turn.of_grown (F := Zn.has ⟨g, bv, bg, .slice A0 vs.length c0⟩) hga (fun z hz => .inr (.inr (.inr hz)))) (fun b h => .inl h)
        exact (t1.setCell (p := ⟨g, 4, none⟩) (.inl (.inl rfl)) _).trans (Turn.of_grown (F := Zn.has ⟨g, bv, bg, .slice A0 vs.length c0⟩) hg3 (fun z hz => by injection hz with hz; exact .inr (.inl hz.symm))) (fun b h => .inl h)
      · rcases hb with h | h | h | h
        · exact .inl (.inl h)
        · exact .inl (.inr (.inl h))
        · exact .inl (.inr (.inr (.inl h)))
        · simp only at h
          rcases hat with h1 | h1
          · exact .inl (.inr (.inr (.inr (by simp only; rw [← h1]; exact h))))
          · rw [h1] at h
            injection h with h
            right
            rw [← h]
            simp
  obtain ⟨fn', caps', hf, hcall⟩ := closure_any (w := w1.setCell ⟨g, 4, none⟩ (.slice A1 k1 c1)) (v := pv) (n := n) (p2 (p1 (hp.later qa))) hpo v2 hok.view hn
    (Q := fun e w' => e = .returned (.tuple #[]) ∧ Dk w' ⟨g, bv, bg, .slice A1 k1 c1⟩ (D.put p n) ∧ Stp ⟨g, bv, bg, .slice A0 vs.length c0⟩ w ⟨g, bv, bg, .slice A1 k1 c1⟩ w') hQ
  obtain ⟨caps, hpv, harg⟩ := hv
  rw [hpv] at hf
  injection hf with hf1 hf2 hf3
  injection hf1 with hf1
  subst hf1 hf3
  exact hcall args harg

set_option maxHeartbeats 4000000 in
set_option maxRecDepth 100000 in
theorem ddo_any (h : Zn) (D : Dsk) (pv : Value) (p : Pnd) (n : Int) (w : World) (hd : Dk w h D) (hok : D.Ok) (hp : PnIs w pv p) (hpo : PnOk p) (hn : InI n) (hlen : D.pend.length ≤ 1000000000) :
    Calls Tryz.prog 68 #[.pointer (some ⟨h.g, 0, none⟩), pv, .int .i64 n] w fun e w' => e = .returned (.tuple #[]) ∧ ∃ h', Dk w' h' (D.put p n) ∧ Stp h w h' w' := by
  obtain ⟨g, bv, bg, sl⟩ := h
  obtain ⟨vs, hown, hpl⟩ := hd.pend
  have hvl := hpl.1
  obtain ⟨A0, c0, hsl, _⟩ := Ow.shape hown
  simp only at hsl hown
  subst hsl
  have hd4 : w.cell? ⟨g, 4, none⟩ = some (.slice A0 vs.length c0) := hd.blk.cell 4
  have HD := Lib.hid hd
  have HO := Lib.hid (Ow.later hown ((Below.refl _ _).alloc (Nat.le_refl _) (.cells #[pv] 113)))
  have HOK := Lib.hid hok
  have HP := Lib.hid hp
  have HPL := Lib.hid hpl
  have HVL := Lib.hid hvl
  have hvb : vs.length ≤ 1000000000 := by omega
  have hgl : g < w.heap.size := hd.blk.lt
  clear hd hok hp hpl hown hvl
  cases p with
  | wr a b =>
    obtain ⟨ga, _, _, rfl, _⟩ := HP.out
    go_enter Tryz.func68, Tryz.ntmps68
    go_wp2_with (first
      | (at_builtin; refine wpList_append_sl _ rfl (.tmp 10) (.tmp 12) elemPn rfl HO.out (Sl.new1 (S := fun _ => True) _ _ _ rfl trivial) rfl rfl (by intro y hy; simp at hy; subst hy; rfl) (by simp only [maxLen]; omega) (by omega) (Nat.zero_le _) ?_; intro A1 k1 c1 w1 hown1 hga hat1; have hblk := ((HD.out.blk.alloc _).kept HO.out hga (by decide)); have hd4 : w1.cell? ⟨g, 4, none⟩ = some (.slice A0 vs.length c0) := hblk.cell 4; have hf4 := hblk.free 4; have hd2 : w1.cell? ⟨g, 2, none⟩ = some (.map (some bv)) := hblk.cell 2)
      | fail)
    refine (ddo_fin HD.out HOK.out HP.out hpo hn HO.out HPL.out hown1 hga hat1 ⟨_, rfl, rfl⟩).mono ?_
    rintro e w3 ⟨rfl, hd3, hs3⟩
    go_wp2_with fail
    go_end0
    exact ⟨rfl, _, hd3, hs3⟩
  | fr a =>
    obtain ⟨ga, rfl, _⟩ := HP.out
    go_enter Tryz.func68, Tryz.ntmps68
    go_wp2_with (first
      | (at_builtin; refine wpList_append_sl _ rfl (.tmp 10) (.tmp 12) elemPn rfl HO.out (Sl.new1 (S := fun _ => True) _ _ _ rfl trivial) rfl rfl (by intro y hy; simp at hy; subst hy; rfl) (by simp only [maxLen]; omega) (by omega) (Nat.zero_le _) ?_; intro A1 k1 c1 w1 hown1 hga hat1; have hblk := ((HD.out.blk.alloc _).kept HO.out hga (by decide)); have hd4 : w1.cell? ⟨g, 4, none⟩ = some (.slice A0 vs.length c0) := hblk.cell 4; have hf4 := hblk.free 4; have hd2 : w1.cell? ⟨g, 2, none⟩ = some (.map (some bv)) := hblk.cell 2)
      | fail)
    refine (ddo_fin HD.out HOK.out HP.out hpo hn HO.out HPL.out hown1 hga hat1 ⟨_, rfl, rfl⟩).mono ?_
    rintro e w3 ⟨rfl, hd3, hs3⟩
    go_wp2_with fail
    go_end0
    exact ⟨rfl, _, hd3, hs3⟩
end Go.Proofs.YtildohndbeagaaaGreatDoor

namespace Go.Proofs.YtildohndbeagaaaGreatDoor
open Go Go.RowKit
set_option linter.unusedVariables false

/-- What the walk of a look at the view wants. -/
theorem Dk.look {w : World} {h : Zn} {D : Dsk} (d : Dk w h D) {a : Int} (ha : InI a) : ∃ v, (Instr.lookup 72 (.map (some h.bv)) (.int .i64 a) true).run Tryz.prog w = .ok (.tuple #[v, .bool (D.view a).isSome]) w ∧
    ∀ l, D.view a = some l → Ub w 0 v l := by
  obtain ⟨m, hm, hr⟩ := d.view
  have hs := hr a ha
  refine ⟨_, by rw [← hs.some_iff]; exact hm.look intTy secTy (nilBytes w) ha, fun l hl => ?_⟩
  rw [hl] at hs
  cases hma : m a with
  | none => rw [hma] at hs; exact hs.elim
  | some v => rw [hma] at hs; exact hs
theorem Dk.len {w : World} {h : Zn} {D : Dsk} (d : Dk w h D) (n : Nat) (ty : TypeId) : (Builtin.len_ #[72] ty #[.map (some h.bv)]).run Tryz.prog (w.drewN n) = .ok (.int .i64 (D.nv : Int)) (w.drewN n) := by
  obtain ⟨m, hm, hr⟩ := d.view
  have h2 : MpV Tryz.prog 3 (w.drewN n) h.bv m D.nv := hm.at rfl
  exact h2.len intTy secTy ty

set_option maxHeartbeats 2000000 in
set_option maxRecDepth 100000 in
theorem dread_any (h : Zn) (D : Dsk) (a : Int) (w : World) (hd : Dk w h D) (hok : D.Ok) (ha : InI a) :
    Calls Tryz.prog 50 #[.pointer (some ⟨h.g, 0, none⟩), .int .i64 a] w fun e w' =>
      (∀ l, D.view a = some l → ∃ A c, e = .returned (.tuple #[.slice A l.length c, .int .i64 0]) ∧ Ob 5 w' w.heap.size (.slice A l.length c) l) ∧
      (D.view a = none → e = .returned (.tuple #[.slice none 0 0, .int .i64 61])) ∧ Below w.heap.size w w' := by
  obtain ⟨v, hlk, hv⟩ := hd.look ha
  have hd2 : w.cell? ⟨h.g, 2, none⟩ = some (.map (some h.bv)) := hd.blk.cell 2
  have HV := Lib.hid hv
  have HOK := Lib.hid hok
  cases hva : D.view a with
  | none =>
    rw [hva] at hlk
    simp only [Option.isSome_none] at hlk
    clear hd hv hok
    go_enter Tryz.func50, Tryz.ntmps50
    go_wp2_with fail
    go_ret2
    exact ⟨(fun l h => by cases h), fun _ => rfl, Below.refl _ _⟩
  | some l =>
    rw [hva] at hlk
    simp only [Option.isSome_some] at hlk
    have hub := hv l hva
    obtain ⟨A, c, rfl, _⟩ := hub.bs.at
    have HU := Lib.hid hub
    have hll : l.length ≤ 512 := (hok.view.at hva).2.2
    clear hd hv hok hub HV
    go_enter Tryz.func50, Tryz.ntmps50
    go_wp2_with (first
      | (at_builtin; refine wpList_append_bs _ rfl (.tmp 19) (.tmp 20) elemU8 rfl (Ob.made _ _ w.heap.size (Nat.le_refl _) (by simp)) (Sl.alloc1 HU.out _) rfl rfl (by simp; omega) (by simp) ?_; intro A1 k1 c1 w1 hown1 hga1 hat1)
      | fail)
    go_ret2
    have q : Below w.heap.size w w1 := below_grown_own ((Below.refl _ _).alloc (Nat.le_refl _) _) (Ob.made _ _ w.heap.size (Nat.le_refl _) (by simp)) hga1 (by simp)
    have ho : Ob 5 w1 w.heap.size (.slice A1 k1 c1) l := by simpa using hown1
    obtain rfl := ho.len
    exact ⟨fun l' h' => (by cases h'; exact ⟨A1, c1, rfl, ho⟩), (fun h => by cases h), q⟩

/-- Why a sector may not be given back. -/
def Dsk.freeE (D : Dsk) (a : Int) : Nat := if (D.view a).isSome then 0 else 61
set_option maxHeartbeats 2000000 in
set_option maxRecDepth 100000 in
theorem dfree_any (h : Zn) (D : Dsk) (a : Int) (w : World) (hd : Dk w h D) (hok : D.Ok) (ha : InI a) (hlen : D.pend.length ≤ 1000000000) :
    Calls Tryz.prog 61 #[.pointer (some ⟨h.g, 0, none⟩), .int .i64 a] w fun e w' => e = .returned (.int .i64 (D.freeE a : Int)) ∧ ∃ h', Dk w' h' (D.free a) ∧ Stp h w h' w' := by
  obtain ⟨v, hlk, hv⟩ := hd.look ha
  have hd2 : w.cell? ⟨h.g, 2, none⟩ = some (.map (some h.bv)) := hd.blk.cell 2
  have HD := Lib.hid hd
  have HOK := Lib.hid hok
  cases hva : D.view a with
  | none =>
    rw [hva] at hlk
    simp only [Option.isSome_none] at hlk
    have HF : Hid (D.free a = D) := by unfold Dsk.free; rw [Hid, hva]; rfl
    have HFE : Hid (D.freeE a = 61) := by unfold Dsk.freeE; rw [Hid, hva]; rfl
    clear hd hv hok
    go_enter Tryz.func61, Tryz.ntmps61
    go_wp2_with fail
    go_ret
    exact ⟨by rw [HFE.out]; rfl, h, by rw [HF.out]; exact HD.out, Stp.refl _ _⟩
  | some l =>
    rw [hva] at hlk
    simp only [Option.isSome_some] at hlk
    have HF : Hid (D.free a = D.put (.fr a) 0) := by unfold Dsk.free; rw [Hid, hva]; rfl
    have HFE : Hid (D.freeE a = 0) := by unfold Dsk.freeE; rw [Hid, hva]; rfl
    have hpo : PnOk (.fr a) := by have := hok.view.at hva; exact ⟨this.1, this.2.1⟩
    have HP := Lib.hid hpo
    clear hd hv hok hpo
    go_enter Tryz.func61, Tryz.ntmps61
    go_wp2_with fail
    refine (freeing_any a w).mono ?_
    rintro e w1 ⟨pv, rfl, hpn, hbl⟩
    go_wp2_with fail
    refine (ddo_any h D pv (.fr a) 0 w1 (HD.out.later hbl) HOK.out hpn HP.out (by unfold InI; omega) hlen).mono ?_
    rintro e w2 ⟨rfl, h', hd', hs'⟩
    go_wp2_with fail
    go_ret
    exact ⟨by rw [HFE.out]; rfl, h', by rw [HF.out]; exact hd', (Stp.below hbl).trans hs'⟩

set_option maxHeartbeats 4000000 in
set_option maxRecDepth 100000 in
theorem dwrite_any (h : Zn) (D : Dsk) (a : Int) (S : Nat → Prop) (v0 : Value) (b : List UInt8) (w : World) (hd : Dk w h D) (hok : D.Ok) (ha : InI a) (hb : Bs S w v0 b) (hbl : b.length ≤ 1099511627776) (hlen : D.pend.length ≤ 1000000000) :
    Calls Tryz.prog 46 #[.pointer (some ⟨h.g, 0, none⟩), .int .i64 a, v0] w fun e w' => e = .returned (.int .i64 (D.why a b : Int)) ∧ ∃ h', Dk w' h' (D.write a b) ∧ Stp h w h' w' := by
  obtain ⟨v, hlk, hv⟩ := hd.look ha
  obtain ⟨A, c, rfl, _⟩ := hb.at
  have hd0 : w.cell? ⟨h.g, 0, none⟩ = some (.int .i64 D.size) := hd.blk.cell 0
  have hd1 : w.cell? ⟨h.g, 1, none⟩ = some (.int .i64 D.limit) := hd.blk.cell 1
  have hd2 : w.cell? ⟨h.g, 2, none⟩ = some (.map (some h.bv)) := hd.blk.cell 2
  have HD := Lib.hid hd
  have HOK := Lib.hid hok
  have HB := Lib.hid hb
  have HA := Lib.hid ha
  have hln := fun n ty => hd.len n ty
  have hwy : Hid (D.why a b = if a < 0 ∨ D.size ≤ a then 61 else if 512 < b.length then 62 else if (D.view a).isNone ∧ D.limit ≤ (D.nv : Int) then 63 else 0) := rfl
  have HWR : Hid (D.write a b = if D.why a b = 0 then D.put (.wr a b) b.length else D) := rfl
  clear hd hok hv hb ha
  by_cases c1 : a < 0 ∨ D.size ≤ a
  · have HW : Hid (D.why a b = 61) := by rw [Hid, hwy.out, if_pos c1]
    have HE : Hid (D.write a b = D) := by rw [Hid, HWR.out, HW.out]; rfl
    rcases Decidable.em (a < 0) with h0 | h0
    case' inl => have hx := h0
    case' inr => have hx : D.size ≤ a := c1.resolve_left h0
    all_goals
      clear c1
      go_enter Tryz.func46, Tryz.ntmps46
      go_wp2_with fail
      go_ret
      exact ⟨by rw [HW.out]; rfl, h, by rw [HE.out]; exact HD.out, Stp.refl _ _⟩
  · have c11 : ¬ a < 0 := fun e => c1 (.inl e)
    have c12 : ¬ D.size ≤ a := fun e => c1 (.inr e)
    by_cases c2 : 512 < b.length
    · have HW : Hid (D.why a b = 62) := by rw [Hid, hwy.out, if_neg c1, if_pos c2]
      have HE : Hid (D.write a b = D) := by rw [Hid, HWR.out, HW.out]; rfl
      clear c1
      go_enter Tryz.func46, Tryz.ntmps46
      go_wp2_with fail
      go_ret
      exact ⟨by rw [HW.out]; rfl, h, by rw [HE.out]; exact HD.out, Stp.refl _ _⟩
    · obtain ⟨U, hU⟩ : ∃ U, (D.view a).isSome = U := ⟨_, rfl⟩
      rw [hU] at hlk
      by_cases c3 : (D.view a).isNone ∧ D.limit ≤ (D.nv : Int)
      · have HW : Hid (D.why a b = 63) := by rw [Hid, hwy.out, if_neg c1, if_neg c2, if_pos c3]
        have HE : Hid (D.write a b = D) := by rw [Hid, HWR.out, HW.out]; rfl
        have hUf : U = false := by rw [← hU]; have := c3.1; cases h1 : D.view a <;> simp_all
        subst hUf
        have c31 := c3.2
        clear c1 c3 hU
        go_enter Tryz.func46, Tryz.ntmps46
        go_wp2_with fail
        go_quiet (fail)
        go_wp2_with fail
        go_ret
        exact ⟨by rw [HW.out]; rfl, h, by rw [HE.out]; exact HD.out.later (below_drewN (Below.refl _ _) _), Stp.below (below_drewN (Below.refl _ _) _)⟩
      · have HW : Hid (D.why a b = 0) := by rw [Hid, hwy.out, if_neg c1, if_neg c2, if_neg c3]
        have HE : Hid (D.write a b = D.put (.wr a b) b.length) := by rw [Hid, HWR.out, HW.out]; rfl
        have HPO : Hid (PnOk (.wr a b)) := by
          have := why_zero HW.out
          have h2 := HOK.out.size
          exact ⟨this.1, by omega, this.2.2⟩
        have hcase : U = true ∨ U = false ∧ ¬ D.limit ≤ (D.nv : Int) := by
          cases h1 : D.view a with
          | none => right; rw [← hU, h1]; exact ⟨rfl, fun e => c3 ⟨by rw [h1]; rfl, e⟩⟩
          | some l => left; rw [← hU, h1]; rfl
        clear c1 c3 hU
        rcases hcase with rfl | ⟨rfl, c31⟩
        all_goals
          go_enter Tryz.func46, Tryz.ntmps46
          go_wp2_with fail
          go_quiet (fail)
          have hq0 : Below w.heap.size w (w.drewN nq) := below_drewN (Below.refl _ _) _
          have HBW : Hid (Bs S (w.drewN nq) (.slice A b.length c) b) := HB.out
          have HDW : Hid (Dk (w.drewN nq) h D) := HD.out.later hq0
          generalize w.drewN nq = W at *
          go_wp2_with (first
            | (at_builtin; refine wpList_append_bs _ rfl (.tmp 48) (.tmp 49) elemU8 rfl (Ob.made _ _ W.heap.size (Nat.le_refl _) (by simp)) (Sl.alloc1 HBW.out _) rfl rfl (by simp; omega) (by simp) ?_; intro A1 k1 c1 w1 hown1 hga1 hat1; have hob : Ob 5 w1 W.heap.size (.slice A1 k1 c1) b := (by simpa using hown1); have hk1 := hob.len; subst hk1)
            | fail)
          have q1 : Below W.heap.size W w1 := below_grown_own ((Below.refl _ _).alloc (Nat.le_refl _) _) (Ob.made _ _ W.heap.size (Nat.le_refl _) (by simp)) hga1 (by simp)
          refine (writing_any a A1 c1 b w1 ((Ub.of_own hob).lower (Nat.zero_le _))).mono ?_
          rintro e w2 ⟨pv, rfl, hpn, hbl2⟩
          have q2 : Below W.heap.size W w2 := q1.trans (hbl2.mono q1.size)
          go_wp2_with fail
          refine (ddo_any h D pv (.wr a b) b.length w2 (HDW.out.later q2) HOK.out hpn HPO.out (by unfold InI; omega) hlen).mono ?_
          rintro e w3 ⟨rfl, h', hd', hs'⟩
          go_wp2_with fail
          go_ret
          exact ⟨by rw [HW.out]; rfl, h', by rw [HE.out]; exact hd', (Stp.below (hq0.trans (q2.mono hq0.size))).trans hs'⟩
end Go.Proofs.YtildohndbeagaaaGreatDoor

namespace Go.Proofs.YtildohndbeagaaaGreatDoor
open Go Go.RowKit
set_option linter.unusedVariables false

/-- Only the disk's own block has turned: the rest reads as it did. -/
theorem Dk.parts {w w' : World} {h : Zn} {D : Dsk} (d : Dk w h D) (hg : w.grownBy w' (some h.g)) : Secs w' h.bv D.view D.nv ∧ Secs w' h.bg D.ground D.ng ∧ ∃ vs, Ow 113 w' 0 h.pv vs ∧ PnL w' vs D.pend := by
  have kd := kind_blk d.blk
  obtain ⟨vs, h1, h2⟩ := d.pend
  refine ⟨d.view.other (fun e => ?_) (by rw [kd]; decide) hg, d.ground.other (fun e => ?_) (by rw [kd]; decide) hg, vs, h1.other (fun e => ?_) hg, h2.keep fun v p hp => hp.other (fun t ht => ?_) hg⟩
  · have := d.view.kind; rw [e, kd] at this; cases this
  · have := d.ground.kind; rw [e, kd] at this; cases this
  · have := kind_own h1 e; rw [kd] at this; revert this; decide
  · rw [kd]; revert ht; simp only [pnKinds, List.mem_cons, List.not_mem_nil, or_false]; rintro (rfl | rfl | rfl) <;> decide

set_option maxHeartbeats 1000000 in
theorem dused_any (h : Zn) (D : Dsk) (w : World) (hd : Dk w h D) :
    Calls Tryz.prog 13 #[.pointer (some ⟨h.g, 0, none⟩)] w fun e w' => e = .returned (.int .i64 (D.nv : Int)) ∧ w = w' := by
  have hd2 : w.cell? ⟨h.g, 2, none⟩ = some (.map (some h.bv)) := hd.blk.cell 2
  have hln := fun ty => hd.len 0 ty
  simp only [World.drewN_zero] at hln
  clear hd
  go_enter Tryz.func13, Tryz.ntmps13
  go_wp2_with fail
  go_ret
  exact ⟨rfl, rfl⟩
set_option maxHeartbeats 1000000 in
theorem dsync_any (h : Zn) (D : Dsk) (w : World) (hd : Dk w h D) (hok : D.Ok) :
    Calls Tryz.prog 47 #[.pointer (some ⟨h.g, 0, none⟩)] w fun e w' => e = .returned (.tuple #[]) ∧ ∃ h', Dk w' h' D.sync ∧ Stp h w h' w' := by
  obtain ⟨g, bv, bg, sl⟩ := h
  have hd2 : w.cell? ⟨g, 2, none⟩ = some (.map (some bv)) := hd.blk.cell 2
  have HD := Lib.hid hd
  have HOK := Lib.hid hok
  clear hd hok
  go_enter Tryz.func47, Tryz.ntmps47
  go_wp2_with fail
  refine (copied_any bv D.nv D.view w HD.out.view HOK.out.view).mono ?_
  rintro e w1 ⟨bo, rfl, hbo, hs, hbl⟩
  have hd1 := HD.out.later hbl
  have HD1 := Lib.hid hd1
  have HS := Lib.hid hs
  have c3 : w1.cell? ⟨g, 3, none⟩ = some (.map (some bg)) := hd1.blk.cell 3
  have c4 : w1.cell? ⟨g, 4, none⟩ = some sl := hd1.blk.cell 4
  have f3 := hd1.blk.free 3
  have f4 := hd1.blk.free 4
  have HBL := Lib.hid hbl
  have hbv := HD.out.view.lt
  clear hd1 hs hbl
  go_wp2_with fail
  go_end0
  have kd := kind_blk HD1.out.blk
  have p1 := HD1.out.parts (grown_cell (g := g) (i := 3) (.map (some bo)))
  have b1 := HD1.out.blk.put 3 (.map (some bo))
  have gg := grown_cell (w := w1.setCell ⟨g, 3, none⟩ (.map (some bo))) (g := g) (i := 4) (.slice none 0 0)
  have kd1 := kind_blk b1
  have hk : ∀ {b n : Nat} {f : SF}, Secs w1 b f n → Secs ((w1.setCell ⟨g, 3, none⟩ (.map (some bo))).setCell ⟨g, 4, none⟩ (.slice none 0 0)) b f n := fun hs => by
    have h1 := hs.other (z := g) (fun e => by have := hs.kind; rw [e] at this; rw [kd] at this; cases this) (by rw [kd]; decide) (grown_cell (g := g) (i := 3) (.map (some bo)))
    exact h1.other (z := g) (fun e => by have := h1.kind; rw [e] at this; rw [kd1] at this; cases this) (by rw [kd1]; decide) gg
  refine ⟨rfl, ⟨g, bv, bo, .slice none 0 0⟩, ⟨b1.put 4 _, hk HD1.out.view, hk HS.out, fun e => by simp only at e hbv; omega, [], World.ownsRow_nil _ _ _ _, PnL.nil _⟩, rfl, ((Turn.of_below HBL.out).setCell (.inl (.inl rfl)) _).setCell (.inl (.inl rfl)) _, fun b hb => ?_⟩
  rcases hb with h | h | h | h
  · exact .inl (.inl h)
  · exact .inl (.inr (.inl h))
  · right; simp only at h; omega
  · cases h
end Go.Proofs.YtildohndbeagaaaGreatDoor
