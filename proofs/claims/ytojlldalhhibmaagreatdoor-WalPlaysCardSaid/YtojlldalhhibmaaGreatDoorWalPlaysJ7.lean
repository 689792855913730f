/- What the proof of WalPlays needs, part 7. -/
import Derived.Test.YtojlldalhhibmaaGreatDoorWalPlaysJ6
import Derived.StillTailTactics
import Derived.BigRegion
import Derived.Deep.RegionHeld3
import Derived.BigQuiet
import Derived.Deep.QuietTactic
import Derived.IntWalk
import Derived.Laws.EntriesVeiled

namespace Go.Proofs.YtojlldalhhibmaaGreatDoor
open Go Go.RowKit
set_option linter.unusedVariables false

theorem rdL_fin {f : SF} {n : Nat} {l : List Sec} (h : FinL f n l) (p : Pnd) (k : Int) : FinL (doP (f, n) p k).1 (doP (f, n) p k).2 (rdL l p k) := by
  cases p with
  | wr a b =>
    have e : lookL l a = f a := h.look a
    show FinL (f.put a (tornB b ((f a).getD []) k)) (f.nPut n a) ((l.filter fun y => y.1 != a) ++ [(a, tornB b ((lookL l a).getD []) k)])
    rw [e]
    exact h.put a _
  | fr a => exact h.del a
/-- The document's disk R is the plain one. -/
structure RDk.Is (R : RDk) (D : Dsk) : Prop where
  size : R.size = D.size
  limit : R.limit = D.limit
  view : FinL D.view D.nv R.view
  ground : FinL D.ground D.ng R.ground
  pend : R.pend = D.pend
theorem RDk.Is.put {R : RDk} {D : Dsk} (h : R.Is D) (p : Pnd) : (R.put p).Is (D.put p p.n) :=
  ⟨h.size, h.limit, rdL_fin h.view p p.n, h.ground, by show R.pend ++ [p] = D.pend ++ [p]; rw [h.pend]⟩
/-- The value v is the document's disk that is D. -/
def RDd (w : World) (v : Value) (D : Dsk) : Prop := ∃ R, Rk w v R ∧ R.Is D
theorem RDd.later {w w' : World} {v : Value} {D : Dsk} (h : RDd w v D) (hb : Below w.heap.size w w') : RDd w' v D := by
  obtain ⟨R, h1, h2⟩ := h
  exact ⟨R, h1.later hb, h2⟩
theorem Rk.setCell {w : World} {v : Value} {R : RDk} (h : Rk w v R) {p : Addr} (h1 : kindAt w p.block ≠ some (some 134)) (h2 : kindAt w p.block ≠ some (some 111)) (u : Value) : Rk (w.setCell p u) v R := by
  obtain ⟨v1, v2, v3, rfl, a1, a2, a3⟩ := h
  exact ⟨v1, v2, v3, rfl, KSl.setCell a1 h1 u, KSl.setCell a2 h1 u, KSl.setCell a3 h2 u⟩
theorem RDd.setCell {w : World} {v : Value} {D : Dsk} (h : RDd w v D) {p : Addr} (h1 : kindAt w p.block ≠ some (some 134)) (h2 : kindAt w p.block ≠ some (some 111)) (u : Value) : RDd (w.setCell p u) v D := by
  obtain ⟨R, a1, a2⟩ := h
  exact ⟨R, a1.setCell h1 h2 u, a2⟩
theorem Rk.put5 {w : World} {v0 : Value} {R : RDk} (h : Rk w v0 R) {g : Nat} {t : TypeId} {cs : Array Value} (hb : Blk w g t cs) (h1 : t ≠ 134) (h2 : t ≠ 111) (x y z u v : Value) :
    Rk (((((w.setCell ⟨g, 0, none⟩ x).setCell ⟨g, 1, none⟩ y).setCell ⟨g, 2, none⟩ z).setCell ⟨g, 3, none⟩ u).setCell ⟨g, 4, none⟩ v) v0 R := by
  obtain ⟨v1, v2, v3, rfl, a1, a2, a3⟩ := h
  exact ⟨v1, v2, v3, rfl, KSl.put5 a1 hb h1 x y z u v, KSl.put5 a2 hb h1 x y z u v, KSl.put5 a3 hb h2 x y z u v⟩
/-- The disk's cells; three slices. -/
theorem RDd.shape {w : World} {v : Value} {D : Dsk} (h : RDd w v D) : ∃ A1 c1 A2 c2 A3 c3, v = .agg #[.int .i64 D.size, .int .i64 D.limit, .slice A1 D.nv c1, .slice A2 D.ng c2, .slice A3 D.pend.length c3] := by
  obtain ⟨R, ⟨v1, v2, v3, rfl, h1, h2, h3⟩, hi⟩ := h
  obtain ⟨A1, c1, rfl, -, -, -⟩ := h1.at
  obtain ⟨A2, c2, rfl, -, -, -⟩ := h2.at
  obtain ⟨A3, c3, rfl, -, -, -⟩ := h3.at
  exact ⟨A1, c1, A2, c2, A3, c3, by rw [hi.size, hi.limit, hi.view.len, hi.ground.len, hi.pend]⟩
theorem agg5_2 {a b c d e a' b' c' d' e' : Value} (h : Value.agg #[a, b, c, d, e] = .agg #[a', b', c', d', e']) : c = c' := by
  injection h with h
  have := congrArg Array.toList h
  simp only [List.cons.injEq] at this
  exact this.2.2.1
theorem agg5_3 {a b c d e a' b' c' d' e' : Value} (h : Value.agg #[a, b, c, d, e] = .agg #[a', b', c', d', e']) : d = d' := by
  injection h with h
  have := congrArg Array.toList h
  simp only [List.cons.injEq] at this
  exact this.2.2.2.1
theorem agg5_4 {a b c d e a' b' c' d' e' : Value} (h : Value.agg #[a, b, c, d, e] = .agg #[a', b', c', d', e']) : e = e' := by
  injection h with h
  have := congrArg Array.toList h
  simp only [List.cons.injEq] at this
  exact this.2.2.2.2.1
/-- The view alone. -/
def Rv (w : World) (v1 : Value) (D : Dsk) : Prop := ∃ l, Sc w v1 l ∧ FinL D.view D.nv l
theorem RDd.rv {w : World} {x y v1 v2 v3 : Value} {D : Dsk} (h : RDd w (.agg #[x, y, v1, v2, v3]) D) : Rv w v1 D := by
  obtain ⟨R, ⟨u1, u2, u3, hv, h1, h2, h3⟩, hi⟩ := h
  have e : v1 = u1 := agg5_2 hv
  rw [e]
  exact ⟨_, h1, hi.view⟩
/-- Find. -/
theorem rvfind_any {v1 : Value} {D : Dsk} {w : World} (hr : Rv w v1 D) (hok : D.Ok) (a : Int) :
    Calls Tryz.prog 59 #[v1, .int .i64 a] w fun e w' => e = .returned (.tuple #[.string (st ((D.view a).getD [])), .bool (D.view a).isSome]) ∧ w = w' := by
  obtain ⟨l, h1, h2⟩ := hr
  have e : lookL l a = D.view a := h2.look a
  have := rfind_any v1 l a w h1 (by rw [h2.len]; have := hok.view.bound; omega)
  rw [e] at this
  exact this
theorem view_len {D : Dsk} (hok : D.Ok) (a : Int) : ((D.view a).getD []).length ≤ 512 := by
  cases hf : D.view a with
  | none => simp
  | some o => exact (hok.view.at hf).2.2
/-- put. -/
theorem rdput_any {v : Value} {D : Dsk} {p : Pnd} {w : World} (hr : RDd w v D) (hok : D.Ok) (hq : D.pend.length ≤ 1000000) (hp : PnOk p) :
    Calls Tryz.prog 60 #[v, .agg (pnC p)] w fun e w' => ∃ v', e = .returned v' ∧ RDd w' v' (D.put p p.n) ∧ Below w.heap.size w w' := by
  obtain ⟨R, h1, h2⟩ := hr
  have e : lookL R.view (pnAt p) = D.view (pnAt p) := h2.view.look _
  refine (rkput_any v R p w h1 (by rw [h2.view.len]; have := hok.view.bound; omega) (by rw [h2.pend]; exact hq) ?_ (by rw [e]; have := view_len hok (pnAt p); omega)).mono ?_
  · cases p with
    | wr a b => exact Nat.le_trans hp.2.2 (by omega)
    | fr a => trivial
  · rintro e w' ⟨v', rfl, h3, h4⟩
    exact ⟨v', rfl, ⟨_, h3, h2.put p⟩, h4⟩

/-- A function on a disk: the disk, the result. -/
structure RbSt (w : World) (D Z : Array Value) (wr : World) : Prop where
  d : Blk wr w.heap.size 33 D
  r : Blk wr (w.heap.size + 1) 33 Z
  below : Below w.heap.size w wr
  size : w.heap.size + 1 + 1 ≤ wr.heap.size
theorem RbSt.start (w : World) (D Z : Array Value) : RbSt w D Z ((w.alloc (.cells D 33)).alloc (.cells Z 33)) :=
  ⟨(Blk.new _ _ _).alloc _, by have := Blk.new (w.alloc (.cells D 33)) 33 Z; simpa using this, ((Below.refl _ _).alloc (Nat.le_refl _) _).alloc (by simp) _, by simp⟩
theorem RbSt.to {w wr w' : World} {D Z : Array Value} (h : RbSt w D Z wr) (hb : Below wr.heap.size wr w') : RbSt w D Z w' :=
  ⟨h.d.later hb, h.r.later hb, h.below.trans (hb.mono h.below.size), Nat.le_trans h.size hb.size⟩
/-- The result is laid. -/
theorem RbSt.ret {w wr : World} {D : Array Value} {z0 z1 z2 z3 z4 : Value} {D' : Dsk} (h : RbSt w D #[z0, z1, z2, z3, z4] wr) {x y z u v : Value} (hr : RDd wr (.agg #[x, y, z, u, v]) D') :
    let w9 := ((((wr.setCell ⟨w.heap.size + 1, 0, none⟩ x).setCell ⟨w.heap.size + 1, 1, none⟩ y).setCell ⟨w.heap.size + 1, 2, none⟩ z).setCell ⟨w.heap.size + 1, 3, none⟩ u).setCell ⟨w.heap.size + 1, 4, none⟩ v
    Blk w9 (w.heap.size + 1) 33 #[x, y, z, u, v] ∧ RDd w9 (.agg #[x, y, z, u, v]) D' ∧ Below w.heap.size w w9 := by
  obtain ⟨R, h1, h2⟩ := hr
  exact ⟨h.r.put5 _ _ _ _ _, ⟨R, h1.put5 h.r (by decide) (by decide) _ _ _ _ _, h2⟩, below_put5 h.below (by omega) _ _ _ _ _⟩

set_option maxHeartbeats 1000000 in
theorem rdnew_any (n : Int) (w : World) (h1 : 1 ≤ n) (h2 : n ≤ 65536) :
    Calls Tryz.prog 5 #[.int .i64 n] w fun e w' => ∃ v, e = .returned (.tuple #[v, .int .i64 0]) ∧ RDd w' v (Dsk.new n) ∧ Below w.heap.size w w' := by
  have i1 : ¬ n < 1 := by omega
  have i2 : ¬ 65536 < n := by omega
  go_enter Tryz.func5, Tryz.ntmps5
  go_wp2_with fail
  exact bodyPost_ret (results_cell2 rfl _ _ w.heap.size rfl (Blk.new _ _ _) rdiskTy) rfl ⟨_, rfl, ⟨⟨n, n, [], [], []⟩, ⟨_, _, _, rfl, Sc.nil _, Sc.nil _, Pc.nil _⟩, ⟨rfl, rfl, FinL.nil, FinL.nil, rfl⟩⟩, (Below.refl _ _).alloc (Nat.le_refl _) _⟩
set_option maxHeartbeats 1000000 in
theorem rdnew_bad (n : Int) (w : World) (h : n < 1 ∨ 65536 < n) :
    Calls Tryz.prog 5 #[.int .i64 n] w fun e w' => ∃ v, e = .returned (.tuple #[v, .int .i64 60]) ∧ Below w.heap.size w w' := by
  rcases Decidable.em (n < 1) with h0 | h0
  case' inl => have hx := h0
  case' inr => have hx : 65536 < n := h.resolve_left h0
  all_goals
    clear h
    go_enter Tryz.func5, Tryz.ntmps5
    go_wp2_with fail
    exact bodyPost_ret (results_cell2 rfl _ _ w.heap.size rfl (Blk.new _ _ _) rdiskTy) rfl (by have hB := (Below.refl w.heap.size w).alloc (Nat.le_refl _) (.cells #[.int .i64 0, .int .i64 0, .slice none 0 0, .slice none 0 0, .slice none 0 0] 33); first | exact ⟨_, rfl, hB⟩ | exact ⟨⟨_, rfl⟩, hB⟩)

set_option maxHeartbeats 2000000 in
set_option maxRecDepth 100000 in
theorem rdsync_any (v : Value) (D : Dsk) (w : World) (hr : RDd w v D) :
    Calls Tryz.prog 42 #[v] w fun e w' => ∃ v', e = .returned v' ∧ RDd w' v' D.sync ∧ Below w.heap.size w w' := by
  have HR := Lib.hid hr
  obtain ⟨A1, c1, A2, c2, A3, c3, rfl⟩ := hr.shape
  have s0 := RbSt.start w #[.int .i64 D.size, .int .i64 D.limit, .slice A1 D.nv c1, .slice A2 D.ng c2, .slice A3 D.pend.length c3] #[.int .i64 0, .int .i64 0, .slice none 0 0, .slice none 0 0, .slice none 0 0]
  clear hr
  go_enter Tryz.func42, Tryz.ntmps42
  go_wp2_with fail
  have s1 := RbSt.start w #[.int .i64 D.size, .int .i64 D.limit, .slice A1 D.nv c1, .slice A1 D.nv c1, .slice none 0 0] #[.int .i64 D.size, .int .i64 D.limit, .slice A1 D.nv c1, .slice A1 D.nv c1, .slice none 0 0]
  refine bodyPost_ret (results_cell1 rfl _ _ (w.heap.size + 1) rfl s1.r rdiskTy) rfl ⟨_, rfl, ?_, s1.below⟩
  obtain ⟨R, ⟨u1, u2, u3, hv, h1, h2, h3⟩, hi⟩ := HR.out
  have e : .slice A1 D.nv c1 = u1 := agg5_2 hv
  rw [← e] at h1
  exact ⟨⟨R.size, R.limit, R.view, R.view, []⟩, ⟨_, _, _, by rw [hi.size, hi.limit], h1.later s1.below, h1.later s1.below, Pc.nil _⟩, ⟨hi.size, hi.limit, hi.view, hi.view, rfl⟩⟩

/-- What Free answers. -/
def Dsk.freeErr (D : Dsk) (a : Int) : Nat := if (D.view a).isSome then 0 else 61
set_option maxHeartbeats 2000000 in
set_option maxRecDepth 100000 in
theorem rdfree_any (v : Value) (D : Dsk) (a : Int) (w : World) (hr : RDd w v D) (hok : D.Ok) (hq : D.pend.length ≤ 1000000) :
    Calls Tryz.prog 54 #[v, .int .i64 a] w fun e w' => ∃ v', e = .returned (.tuple #[v', .int .i64 (D.freeErr a : Nat)]) ∧ RDd w' v' (D.free a) ∧ Below w.heap.size w w' := by
  have HR := Lib.hid hr
  obtain ⟨A1, c1, A2, c2, A3, c3, rfl⟩ := hr.shape
  have s0 := RbSt.start w #[.int .i64 D.size, .int .i64 D.limit, .slice A1 D.nv c1, .slice A2 D.ng c2, .slice A3 D.pend.length c3] #[.int .i64 0, .int .i64 0, .slice none 0 0, .slice none 0 0, .slice none 0 0]
  have HR0 := Lib.hid (HR.out.later s0.below)
  have S0 := Lib.hid s0
  have HP : Hid ((D.view a).isSome = true → PnOk (.fr a)) := fun h => by
    obtain ⟨b, hb⟩ := Option.isSome_iff_exists.1 h
    have := hok.view.at hb
    exact ⟨this.1, this.2.1⟩
  clear hr s0
  go_enter Tryz.func54, Tryz.ntmps54
  go_wp2_with fail
  refine (rvfind_any HR0.out.rv hok a).mono ?_
  rintro e w' ⟨rfl, rfl⟩
  have HE : Hid (D.free a = if (D.view a).isSome then D.put (.fr a) 0 else D) := rfl
  have HY : Hid (D.freeErr a = if (D.view a).isSome then 0 else 61) := rfl
  obtain ⟨F, hF⟩ : ∃ F, D.view a = F := ⟨_, rfl⟩
  rw [hF]
  rw [hF] at HE HP HY
  clear hF
  cases F with
  | none =>
    go_wp2_with fail
    have s1 := RbSt.start w #[.int .i64 D.size, .int .i64 D.limit, .slice A1 D.nv c1, .slice A2 D.ng c2, .slice A3 D.pend.length c3] #[.int .i64 D.size, .int .i64 D.limit, .slice A1 D.nv c1, .slice A2 D.ng c2, .slice A3 D.pend.length c3]
    exact bodyPost_ret (results_cell2 rfl _ _ (w.heap.size + 1) rfl s1.r rdiskTy) rfl ⟨_, by rw [HY.out]; rfl, by rw [HE.out]; exact HR.out.later s1.below, s1.below⟩
  | some b =>
    go_wp2_with fail
    refine (rdput_any (p := .fr a) HR0.out hok hq (HP.out rfl)).mono ?_
    rintro e w7 ⟨v7, rfl, h7, hb7⟩
    have H7 := Lib.hid h7
    obtain ⟨B1, d1, B2, d2, B3, d3, rfl⟩ := h7.shape
    have s7 := S0.out.to hb7
    have r0 : (w7).cell? ⟨w.heap.size + 1, 0, none⟩ = some (.int .i64 0) := s7.r.cell 0
    have r1 : (w7).cell? ⟨w.heap.size + 1, 1, none⟩ = some (.int .i64 0) := s7.r.cell 1
    have r2 : (w7).cell? ⟨w.heap.size + 1, 2, none⟩ = some (.slice none 0 0) := s7.r.cell 2
    have r3 : (w7).cell? ⟨w.heap.size + 1, 3, none⟩ = some (.slice none 0 0) := s7.r.cell 3
    have r4 : (w7).cell? ⟨w.heap.size + 1, 4, none⟩ = some (.slice none 0 0) := s7.r.cell 4
    have rf0 : (w7).frozen? ⟨w.heap.size + 1, 0, none⟩ = false := s7.r.free 0
    have rf1 : (w7).frozen? ⟨w.heap.size + 1, 1, none⟩ = false := s7.r.free 1
    have rf2 : (w7).frozen? ⟨w.heap.size + 1, 2, none⟩ = false := s7.r.free 2
    have rf3 : (w7).frozen? ⟨w.heap.size + 1, 3, none⟩ = false := s7.r.free 3
    have rf4 : (w7).frozen? ⟨w.heap.size + 1, 4, none⟩ = false := s7.r.free 4
    have HF := Lib.hid (s7.ret H7.out)
    clear h7 hb7 s7
    go_wp2_with fail
    exact bodyPost_ret (results_cell2 rfl _ _ (w.heap.size + 1) rfl HF.out.1 rdiskTy) rfl ⟨_, by rw [HY.out]; rfl, by rw [HE.out]; exact HF.out.2.1, HF.out.2.2⟩

set_option maxHeartbeats 2000000 in
set_option maxRecDepth 100000 in
theorem rdwrite_any (v : Value) (D : Dsk) (a : Int) (b : List UInt8) (w : World) (hr : RDd w v D) (hok : D.Ok) (hq : D.pend.length ≤ 1000000) (hbl : b.length ≤ 1099511627776) :
    Calls Tryz.prog 35 #[v, .int .i64 a, .string (st b)] w fun e w' => ∃ v', e = .returned (.tuple #[v', .int .i64 (D.why a b : Nat)]) ∧ RDd w' v' (D.write a b) ∧ Below w.heap.size w w' := by
  have HR := Lib.hid hr
  obtain ⟨A1, c1, A2, c2, A3, c3, rfl⟩ := hr.shape
  have s0 := RbSt.start w #[.int .i64 D.size, .int .i64 D.limit, .slice A1 D.nv c1, .slice A2 D.ng c2, .slice A3 D.pend.length c3] #[.int .i64 0, .int .i64 0, .slice none 0 0, .slice none 0 0, .slice none 0 0]
  have s1 := Lib.hid (RbSt.start w #[.int .i64 D.size, .int .i64 D.limit, .slice A1 D.nv c1, .slice A2 D.ng c2, .slice A3 D.pend.length c3] #[.int .i64 D.size, .int .i64 D.limit, .slice A1 D.nv c1, .slice A2 D.ng c2, .slice A3 D.pend.length c3])
  have HR0 := Lib.hid (HR.out.later s0.below)
  have HR1 := Lib.hid (HR.out.later s1.out.below)
  have S0 := Lib.hid s0
  have HOK := Lib.hid hok
  have hnv := hok.view.bound
  have HY : Hid (D.why a b = if a < 0 ∨ D.size ≤ a then 61 else if 512 < b.length then 62 else if (D.view a).isNone ∧ D.limit ≤ (D.nv : Int) then 63 else 0) := rfl
  have HE : Hid (D.write a b = if D.why a b = 0 then D.put (.wr a b) b.length else D) := rfl
  clear hr s0 hok
  by_cases i1 : a < 0
  · have HW : Hid (D.why a b = 61) := by rw [Hid, HY.out, if_pos (.inl i1)]
    clear HY
    go_enter Tryz.func35, Tryz.ntmps35
    go_wp2_with fail
    exact bodyPost_ret (results_cell2 rfl _ _ (w.heap.size + 1) rfl s1.out.r rdiskTy) rfl ⟨_, by rw [HW.out]; rfl, by rw [HE.out, HW.out]; exact HR1.out, s1.out.below⟩
  by_cases i2 : D.size ≤ a
  · have HW : Hid (D.why a b = 61) := by rw [Hid, HY.out, if_pos (.inr i2)]
    clear HY
    go_enter Tryz.func35, Tryz.ntmps35
    go_wp2_with fail
    exact bodyPost_ret (results_cell2 rfl _ _ (w.heap.size + 1) rfl s1.out.r rdiskTy) rfl ⟨_, by rw [HW.out]; rfl, by rw [HE.out, HW.out]; exact HR1.out, s1.out.below⟩
  by_cases i3 : 512 < b.length
  · have HW : Hid (D.why a b = 62) := by rw [Hid, HY.out, if_neg (by omega), if_pos i3]
    clear HY
    go_enter Tryz.func35, Tryz.ntmps35
    go_wp2_with fail
    exact bodyPost_ret (results_cell2 rfl _ _ (w.heap.size + 1) rfl s1.out.r rdiskTy) rfl ⟨_, by rw [HW.out]; rfl, by rw [HE.out, HW.out]; exact HR1.out, s1.out.below⟩
  have HP : Hid (PnOk (.wr a b)) := ⟨by omega, by have := HOK.out.size; omega, by omega⟩
  have HW2 : Hid (D.why a b = if (D.view a).isNone ∧ D.limit ≤ (D.nv : Int) then 63 else 0) := by rw [Hid, HY.out, if_neg (by omega), if_neg i3]
  clear HY
  go_enter Tryz.func35, Tryz.ntmps35
  go_wp2_with fail
  refine (rvfind_any HR0.out.rv HOK.out a).mono ?_
  rintro e w' ⟨rfl, rfl⟩
  obtain ⟨F, hF⟩ : ∃ F, D.view a = F := ⟨_, rfl⟩
  rw [hF]
  rw [hF] at HW2
  have key : ∀ x, (x = 0 ∨ x = 63) → F.isNone = true ∧ D.limit ≤ (D.nv : Int) ∧ x = 63 ∨ ¬ (F.isNone = true ∧ D.limit ≤ (D.nv : Int)) ∧ x = 0 → D.why a b = x := by
    rintro x _ (⟨h1, h2, rfl⟩ | ⟨h1, rfl⟩)
    · rw [HW2.out, if_pos ⟨h1, h2⟩]
    · rw [HW2.out, if_neg h1]
  have KEY := Lib.hid key
  clear key hF
  cases F with
  | none =>
    by_cases i4 : D.limit ≤ (D.nv : Int)
    · have HW : Hid (D.why a b = 63) := KEY.out 63 (.inr rfl) (.inl ⟨rfl, i4, rfl⟩)
      clear KEY HW2
      go_wp2_with fail
      exact bodyPost_ret (results_cell2 rfl _ _ (w.heap.size + 1) rfl s1.out.r rdiskTy) rfl ⟨_, by rw [HW.out]; rfl, by rw [HE.out, HW.out]; exact HR1.out, s1.out.below⟩
    · have HW : Hid (D.why a b = 0) := KEY.out 0 (.inl rfl) (.inr ⟨fun h => i4 h.2, rfl⟩)
      clear KEY HW2
      go_wp2_with fail
      refine (rdput_any (p := .wr a b) HR0.out HOK.out hq HP.out).mono ?_
      rintro e w7 ⟨v7, rfl, h7, hb7⟩
      have H7 := Lib.hid h7
      obtain ⟨B1, d1, B2, d2, B3, d3, rfl⟩ := h7.shape
      have s7 := S0.out.to hb7
      have r0 : (w7).cell? ⟨w.heap.size + 1, 0, none⟩ = some (.int .i64 0) := s7.r.cell 0
      have r1 : (w7).cell? ⟨w.heap.size + 1, 1, none⟩ = some (.int .i64 0) := s7.r.cell 1
      have r2 : (w7).cell? ⟨w.heap.size + 1, 2, none⟩ = some (.slice none 0 0) := s7.r.cell 2
      have r3 : (w7).cell? ⟨w.heap.size + 1, 3, none⟩ = some (.slice none 0 0) := s7.r.cell 3
      have r4 : (w7).cell? ⟨w.heap.size + 1, 4, none⟩ = some (.slice none 0 0) := s7.r.cell 4
      have rf0 : (w7).frozen? ⟨w.heap.size + 1, 0, none⟩ = false := s7.r.free 0
      have rf1 : (w7).frozen? ⟨w.heap.size + 1, 1, none⟩ = false := s7.r.free 1
      have rf2 : (w7).frozen? ⟨w.heap.size + 1, 2, none⟩ = false := s7.r.free 2
      have rf3 : (w7).frozen? ⟨w.heap.size + 1, 3, none⟩ = false := s7.r.free 3
      have rf4 : (w7).frozen? ⟨w.heap.size + 1, 4, none⟩ = false := s7.r.free 4
      have HF := Lib.hid (s7.ret H7.out)
      clear h7 hb7 s7
      go_wp2_with fail
      exact bodyPost_ret (results_cell2 rfl _ _ (w.heap.size + 1) rfl HF.out.1 rdiskTy) rfl ⟨_, by rw [HW.out]; rfl, by rw [HE.out, if_pos HW.out]; exact HF.out.2.1, HF.out.2.2⟩
  | some b0 =>
    have HW : Hid (D.why a b = 0) := KEY.out 0 (.inl rfl) (.inr ⟨fun h => (by cases h.1), rfl⟩)
    clear KEY HW2
    go_wp2_with fail
    refine (rdput_any (p := .wr a b) HR0.out HOK.out hq HP.out).mono ?_
    rintro e w7 ⟨v7, rfl, h7, hb7⟩
    have H7 := Lib.hid h7
    obtain ⟨B1, d1, B2, d2, B3, d3, rfl⟩ := h7.shape
    have s7 := S0.out.to hb7
    have r0 : (w7).cell? ⟨w.heap.size + 1, 0, none⟩ = some (.int .i64 0) := s7.r.cell 0
    have r1 : (w7).cell? ⟨w.heap.size + 1, 1, none⟩ = some (.int .i64 0) := s7.r.cell 1
    have r2 : (w7).cell? ⟨w.heap.size + 1, 2, none⟩ = some (.slice none 0 0) := s7.r.cell 2
    have r3 : (w7).cell? ⟨w.heap.size + 1, 3, none⟩ = some (.slice none 0 0) := s7.r.cell 3
    have r4 : (w7).cell? ⟨w.heap.size + 1, 4, none⟩ = some (.slice none 0 0) := s7.r.cell 4
    have rf0 : (w7).frozen? ⟨w.heap.size + 1, 0, none⟩ = false := s7.r.free 0
    have rf1 : (w7).frozen? ⟨w.heap.size + 1, 1, none⟩ = false := s7.r.free 1
    have rf2 : (w7).frozen? ⟨w.heap.size + 1, 2, none⟩ = false := s7.r.free 2
    have rf3 : (w7).frozen? ⟨w.heap.size + 1, 3, none⟩ = false := s7.r.free 3
    have rf4 : (w7).frozen? ⟨w.heap.size + 1, 4, none⟩ = false := s7.r.free 4
    have HF := Lib.hid (s7.ret H7.out)
    clear h7 hb7 s7
    go_wp2_with fail
    exact bodyPost_ret (results_cell2 rfl _ _ (w.heap.size + 1) rfl HF.out.1 rdiskTy) rfl ⟨_, by rw [HW.out]; rfl, by rw [HE.out, if_pos HW.out]; exact HF.out.2.1, HF.out.2.2⟩
end Go.Proofs.YtojlldalhhibmaaGreatDoor

namespace Go.Proofs.YtojlldalhhibmaaGreatDoor
open Go Go.RowKit
set_option linter.unusedVariables false

def rdKs : List (Option TypeId) := [some 134, some 111]
theorem Rk.same {w w' : World} {v : Value} {R : RDk} (h : Rk w v R) (hs : SameK rdKs w w') : Rk w' v R := by
  obtain ⟨v1, v2, v3, rfl, a1, a2, a3⟩ := h
  exact ⟨v1, v2, v3, rfl, KSl.same a1 hs (by decide), KSl.same a2 hs (by decide), KSl.same a3 hs (by decide)⟩
theorem RDd.same {w w' : World} {v : Value} {D : Dsk} (h : RDd w v D) (hs : SameK rdKs w w') : RDd w' v D := by
  obtain ⟨R, a1, a2⟩ := h
  exact ⟨R, a1.same hs, a2⟩
def VRd (D : Dsk) : VP := fun v w => RDd w v D
theorem VRd.shape {D : Dsk} {v : Value} {w : World} (h : VRd D v w) : ∃ A1 c1 A2 c2 A3 c3, v = .agg #[.int .i64 D.size, .int .i64 D.limit, .slice A1 D.nv c1, .slice A2 D.ng c2, .slice A3 D.pend.length c3] := RDd.shape h
theorem VRd.stays (D : Dsk) : Stays (VRd D) := fun _ _ _ hb h => RDd.later h hb
theorem VRd.pstays (D : Dsk) {p : Pt} (ht : some p.t ∉ rdKs) : PStays p (VRd D) := fun _ _ _ hp h => RDd.same h (hp.same ht)

/-- The program's disk. -/
def dkKs : List (Option TypeId) := [some 69, none, some 106, some 3, some 73, some 5]
theorem Ub.same {ks : List (Option TypeId)} {w w' : World} {B : Nat} {v : Value} {l : List UInt8} (h : Ub w B v l) (hs : SameK ks w w') (hk : some 5 ∈ ks) : Ub w' B v l := h.keep fun b hb => hs b _ hk (kind_ub hb)
theorem Secs.same {ks : List (Option TypeId)} {w w' : World} {b n : Nat} {f : SF} (h : Secs w b f n) (hs : SameK ks w w') (h1 : none ∈ ks) (h2 : some 5 ∈ ks) : Secs w' b f n := by
  have hk := h.kind
  obtain ⟨m, hm, hr⟩ := h
  exact ⟨m, hm.sameK hk hs h1, fun a ha => (hr a ha).keep fun _ _ h => h.same hs h2⟩
theorem PnIs.same {w w' : World} {v : Value} {p : Pnd} (h : PnIs w v p) (hs : SameK dkKs w w') : PnIs w' v p := by
  cases p with
  | wr a b =>
    obtain ⟨ga, A, c, h1, h2, h3, h4⟩ := h
    exact ⟨ga, A, c, h1, h2.sameK hs (by decide), h3.sameK hs (by decide), h4.same hs (by decide)⟩
  | fr a =>
    obtain ⟨ga, h1, h2⟩ := h
    exact ⟨ga, h1, h2.sameK hs (by decide)⟩
theorem Dk.same {w w' : World} {h : Zn} {D : Dsk} (d : Dk w h D) (hs : SameK dkKs w w') : Dk w' h D := by
  obtain ⟨vs, h1, h2⟩ := d.pend
  exact ⟨d.blk.sameK hs (by decide), d.view.same hs (by decide) (by decide), d.ground.same hs (by decide) (by decide), d.ne, vs, h1.same hs (by decide), h2.keep fun _ _ h => h.same hs⟩
/-- A call on the program's disk leaves blocks of other kinds. -/
theorem Stp.same {ks : List (Option TypeId)} {h h' : Zn} {w w' : World} {D : Dsk} (s : Stp h w h' w') (d : Dk w h D) (hk : some 69 ∉ ks) (h0 : none ∉ ks) (hp : some 106 ∉ ks) : SameK ks w w' := fun b t ht hb =>
  s.turn.block b (kind_lt hb) fun e => by
    rcases d.kinds e with h3 | h3 | h3
    · exact SameK.not h3 hk hb ht
    · exact SameK.not h3 h0 hb ht
    · exact SameK.not h3 hp hb ht
end Go.Proofs.YtojlldalhhibmaaGreatDoor

namespace Go.Proofs.YtojlldalhhibmaaGreatDoor
open Go
set_option linter.unusedVariables false

/-- What a sector's bytes tell: a number above 0, and a body. -/
def tellsB (s : List UInt8) : Option (Nat × List UInt8) := match recGet s with
  | some ((q, t), n) => if n = s.length ∧ 0 < q then some (q, t) else none
  | none => none
/-- One sector more is looked at. -/
def mtStep (f : SF) (a : Int) (x : Nat × Int × List UInt8) (i : Int) : Nat × Int × List UInt8 := match f (a + i) with
  | some s => match tellsB s with
    | some (q, t) => if x.1 < q then (q, i, t) else x
    | none => x
  | none => x
def mtOpen (f : SF) (a : Int) : Nat × Int × List UInt8 := mtStep f a (mtStep f a (0, 1, []) 0) 1
def mtErr (x : Nat × Int × List UInt8) : Nat := if x.1 = 0 then 121 else 0

/-- The disk, the number and the last sector, behind so many steps; whether it was done; why not. -/
structure MtSt where
  D : Dsk
  num : Nat
  last : Int
  done : Bool
  err : Nat
def mtSteps (D : Dsk) (a : Int) (num : Nat) (last : Int) (body : List UInt8) (k : Int) : MtSt :=
  if 480 < body.length then ⟨D, num, last, false, 120⟩
  else if k < 1 then ⟨D, num, last, false, 0⟩
  else if k < 2 then ⟨D.free (a + (1 - last)), num, last, false, 0⟩
  else if k < 3 then ⟨(D.free (a + (1 - last))).sync, num, last, false, 0⟩
  else if (D.free (a + (1 - last))).sync.why (a + (1 - last)) (recB ((num + 1) % U64) body) ≠ 0 then
    ⟨(D.free (a + (1 - last))).sync, num, last, false, (D.free (a + (1 - last))).sync.why (a + (1 - last)) (recB ((num + 1) % U64) body)⟩
  else if k < 4 then ⟨(D.free (a + (1 - last))).sync.write (a + (1 - last)) (recB ((num + 1) % U64) body), num, last, false, 0⟩
  else ⟨((D.free (a + (1 - last))).sync.write (a + (1 - last)) (recB ((num + 1) % U64) body)).sync, (num + 1) % U64, 1 - last, true, 0⟩
end Go.Proofs.YtojlldalhhibmaaGreatDoor

namespace Go.Proofs.YtojlldalhhibmaaGreatDoor
open Go Go.RowKit
set_option linter.unusedVariables false

/-- Survivors as cells. -/
def pcs (l : List (Int × Int)) : List Value := l.flatMap fun x => [.int .i64 x.1, .int .i64 x.2]
theorem pcs_len (l : List (Int × Int)) : (pcs l).length = l.length * 2 := by
  induction l with
  | nil => rfl
  | cons r rs ih => simp only [pcs, List.flatMap_cons, List.length_append, List.length_cons, List.length_nil] at ih ⊢; omega
theorem pcs_at {l : List (Int × Int)} {j : Nat} (h : j < l.length) : (pcs l)[j * 2]? = some (.int .i64 l[j].1) ∧ (pcs l)[j * 2 + 1]? = some (.int .i64 l[j].2) := by
  induction l generalizing j with
  | nil => simp at h
  | cons r rs ih =>
    rcases j with _ | j
    · simp [pcs]
    · have := ih (j := j) (by simpa using h)
      simp only [pcs, List.flatMap_cons] at this ⊢
      rw [show (j + 1) * 2 = j * 2 + 1 + 1 by omega]
      simpa using this
/-- The slice value v reads as the survivors l. -/
def Sv (S : Nat → Prop) (w : World) (v : Value) (l : List (Int × Int)) : Prop := Sl S w 2 v l.length (pcs l)
theorem Sv.at {S : Nat → Prop} {w : World} {v : Value} {l : List (Int × Int)} (h : Sv S w v l) : ∃ A c, v = .slice A l.length c ∧
    (0 < l.length → ∃ b o, A = some ⟨b, o, none⟩ ∧ b < w.heap.size ∧ ∀ j (hj : j < l.length), w.cell? ⟨b, o + j * 2, none⟩ = some (.int .i64 l[j].1) ∧ w.cell? ⟨b, o + j * 2 + 1, none⟩ = some (.int .i64 l[j].2)) := by
  obtain ⟨_, A, c, h2, h3, h4, h5, h6⟩ := h
  refine ⟨A, c, h2, fun hn => ?_⟩
  obtain ⟨b, o, ha, hs, hc⟩ := h6 hn
  have h0 := hc _ _ (pcs_at hn).1
  refine ⟨b, o, ha, World.block_lt_of_cell? w _ h0, fun j hj => ⟨hc _ _ (pcs_at hj).1, ?_⟩⟩
  rw [Nat.add_assoc]
  exact hc _ _ (pcs_at hj).2
def fstOf (l : List (Int × Int)) (a : Int) : Option Int := (l.find? fun x => x.1 == a).map (·.2)
theorem fstOf_drop {l : List (Int × Int)} {i : Nat} (h : i < l.length) (a : Int) : fstOf (l.drop i) a = if a = l[i].1 then some l[i].2 else fstOf (l.drop (i + 1)) a := by
  unfold fstOf
  rw [List.drop_eq_getElem_cons h]
  by_cases ha : a = l[i].1
  · rw [if_pos ha, List.find?_cons_of_pos (by simp [ha])]; rfl
  · rw [if_neg ha, List.find?_cons_of_neg (by simp; exact fun e => ha e.symm)]
theorem keptN_fst (l : List (Int × Int)) (k : Nat) : keptN l k = fstOf l (k : Int) := rfl
theorem crashF_snoc (l : List (Int × Int)) : ∀ (ps : List Pnd) (p : Pnd) (k : Nat) (s : SF × Nat), crashF l k (ps ++ [p]) s = match keptN l (k + ps.length) with | some n => doP (crashF l k ps s) p n | none => crashF l k ps s
  | [], p, k, s => by
    simp only [List.nil_append, crashF, List.length_nil, Nat.add_zero]
    cases keptN l k <;> rfl
  | q :: ps, p, k, s => by
    rw [List.cons_append, crashF, crashF_snoc l ps p (k + 1)]
    rw [show k + 1 + ps.length = k + (q :: ps).length by simp; omega]
    rfl
theorem fstOf_in {l : List (Int × Int)} (h : ∀ x ∈ l, InI x.1 ∧ InI x.2) {a n : Int} (hf : fstOf l a = some n) : InI n := by
  unfold fstOf at hf
  cases hfd : l.find? (fun x => x.1 == a) with
  | none => rw [hfd] at hf; cases hf
  | some x =>
    rw [hfd] at hf
    simp only [Option.map_some, Option.some.injEq] at hf
    subst hf
    exact (h x (List.mem_of_find?_eq_some hfd)).2
theorem miTy : Tryz.prog.underlying 102 = some (.map 3 3) := Tryz.underlying102
theorem zeroInt (w : World) : (zeroValue 3).run Tryz.prog w = .ok (.int .i64 0) w := by kernel_rfl

theorem closure_call {w : World} {v : Value} {p : Pnd} {bm n0 : Nat} {f : SF} {n : Int} (hp : PnIs w v p) (hpo : PnOk p) (hs : Secs w bm f n0) (hf : FinK f n0) (hn : InI n) {fn : FuncId} {args : Array Value}
    (hv : ∃ caps, v = .func (Fn.func fn) #[] caps ∧ args = #[.map (some bm), .int .i64 n] ++ caps) :
    Calls Tryz.prog fn args w fun e w' => e = .returned (.tuple #[]) ∧ Secs w' bm (doP (f, n0) p n).1 (doP (f, n0) p n).2 ∧ w.grownBy w' (some bm) := by
  obtain ⟨fn', caps', hf', hcall⟩ := closure_any hp hpo hs hf hn (Q := fun e w' => e = .returned (.tuple #[]) ∧ Secs w' bm (doP (f, n0) p n).1 (doP (f, n0) p n).2 ∧ w.grownBy w' (some bm)) (fun w' h1 h2 => ⟨rfl, h1, h2⟩)
  obtain ⟨caps, hpv, harg⟩ := hv
  rw [hpv] at hf'
  injection hf' with hf1 hf2 hf3
  injection hf1 with hf1
  subst hf1 hf3
  exact hcall args harg
/-- The second loop: so many pending writes were looked at. -/
structure CrSt (w wr : World) (h : Zn) (D : Dsk) (l : List (Int × Int)) (vs : List Value) (i nl : Nat) : Prop where
  blk : Blk wr h.g 69 #[.int .i64 D.size, .int .i64 D.limit, .map (some h.bv), .map (some h.bg), h.pv]
  ground : Secs wr h.bg (crashF l 0 (D.pend.take i) (D.ground, D.ng)).1 (crashF l 0 (D.pend.take i) (D.ground, D.ng)).2
  pend : Ow 106 wr 0 h.pv vs ∧ PnL wr vs D.pend
  left : ∃ lm, MpV Tryz.prog 3 wr w.heap.size lm nl ∧ ∀ a, InI a → lm a = (fstOf l a).map (Value.int .i64)
  turn : Turn h.has w wr
  bgl : h.bg < w.heap.size

theorem crst_step {w wr w3 : World} {h : Zn} {D : Dsk} {l : List (Int × Int)} {vs : List Value} {i nl : Nat} (hst : CrSt w wr h D l vs i nl)
    (hs3 : Secs w3 h.bg (crashF l 0 (D.pend.take (i + 1)) (D.ground, D.ng)).1 (crashF l 0 (D.pend.take (i + 1)) (D.ground, D.ng)).2) (hg3 : wr.grownBy w3 (some h.bg)) : CrSt w w3 h D l vs (i + 1) nl := by
  have kv := hst.ground.kind
  obtain ⟨lm, hlm, hlv⟩ := hst.left
  refine ⟨hst.blk.grown hg3 (fun e => ?_), hs3, ⟨hst.pend.1.other (fun e => ?_) hg3, hst.pend.2.keep fun v p hp => hp.other (fun t ht => by rw [kv]; simp) hg3⟩, ⟨lm, ?_, hlv⟩, hst.turn.trans (Turn.of_grown (F := h.has) hg3 (fun z hz => by injection hz with hz; exact .inr (.inr (.inl hz.symm)))) (fun b hb => .inl hb), hst.bgl⟩
  · injection e with e
    have e2 : h.g = h.bg := by first | exact e | exact e.symm
    exact absurd ((kind_blk hst.blk).symm.trans ((congrArg (kindAt _) e2).trans kv)) (by simp)
  · have := kind_own hst.pend.1 e
    rw [kv] at this
    cases this
  · exact hlm.other (by have := hst.bgl; omega) hg3

set_option maxHeartbeats 2000000 in
set_option maxRecDepth 100000 in
theorem dcrash_any (h : Zn) (D : Dsk) (S : Nat → Prop) (v0 : Value) (l : List (Int × Int)) (w : World) (hd : Dk w h D) (hok : D.Ok) (hsv : Sv S w v0 l) (hin : ∀ x ∈ l, InI x.1 ∧ InI x.2) (hll : l.length ≤ 1000000) (hlen : D.pend.length ≤ 1000000000) :
    Calls Tryz.prog 17 #[.pointer (some ⟨h.g, 0, none⟩), v0] w fun e w' => e = .returned (.tuple #[]) ∧ ∃ h', Dk w' h' (D.crash l) ∧ Stp h w h' w' := by
  obtain ⟨g, bv, bg, sl⟩ := h
  obtain ⟨A, c, rfl, hA⟩ := hsv.at
  have HA := Lib.hid hA
  have HD := Lib.hid hd
  have HOK := Lib.hid hok
  have HIN := Lib.hid hin
  have hmm := @run_makeMap Tryz.prog
  have hM0 : Hid (MpV Tryz.prog 3 (w.alloc (.map #[] 0)) w.heap.size (fun _ => none) 0) := MpV.made _ _ w
  have q0 : Below w.heap.size w (w.alloc (.map #[] 0)) := (Below.refl _ _).alloc (Nat.le_refl _) _
  clear hd hok hin hA hsv
  go_enter Tryz.func17, Tryz.ntmps17
  go_wp2_with fail
  go_loopw [5] (fun iv wr => ∃ (i : Nat) (lm : Int → Option Value) (nl : Nat), iv = .int .i64 ((i : Int) - 1) ∧ i ≤ l.length ∧ nl ≤ l.length - i ∧ MpV Tryz.prog 3 wr w.heap.size lm nl ∧ Hid (∀ a, InI a → lm a = (fstOf (l.drop i) a).map (Value.int .i64)) ∧ Below w.heap.size w wr) (fun iv _ => (intOf iv + 1).toNat)
  case atStart =>
    exact ⟨l.length, _, 0, rfl, Nat.le_refl _, by omega, hM0.out, fun a _ => by rw [List.drop_length]; rfl, q0⟩
  case round =>
    obtain ⟨i, lm, nl, rfl, hi, hnl, hm, hlm, hbl⟩ := hrel
    have HM := Lib.hid hm
    clear hm
    rcases i with _ | j
    · have HLM : Hid (∀ a, InI a → lm a = (fstOf l a).map (Value.int .i64)) := fun a ha => by have := hlm.out a ha; rw [List.drop_zero] at this; exact this
      obtain ⟨vs, hown, hpl⟩ := HD.out.pend
      obtain ⟨A0, c0, hsl, hsA⟩ := Ow.shape hown
      simp only at hsl
      subst hsl
      have HVL := Lib.hid hpl.1
      have hvb : vs.length ≤ 1000000000 := by have := hpl.1; omega
      have hbvl := HD.out.view.lt
      have hbgl := HD.out.ground.lt
      have hgl := HD.out.blk.lt
      simp only at hbvl hbgl hgl
      have qr := hbl
      have hsz := qr.size
      have d1 := HD.out.later qr
      have HSA : Hid (0 < vs.length → ∃ g', A0 = some ⟨g', 0, none⟩) := fun h0 => by obtain ⟨g', h1, _⟩ := hsA h0; exact ⟨g', h1⟩
      have S0 : CrSt w wr ⟨g, bv, bg, .slice A0 vs.length c0⟩ D l vs 0 nl := ⟨d1.blk, by rw [List.take_zero]; exact d1.ground, ⟨Ow.later hown qr, hpl.keep fun _ _ h => h.later qr⟩, ⟨lm, HM.out, HLM.out⟩, Turn.of_below qr, hbgl⟩
      have c4 : wr.cell? ⟨g, 4, none⟩ = some (.slice A0 vs.length c0) := d1.blk.cell 4
      clear d1 hsA hpl hown hlm hbl HM HLM qr
      go_wp2_with fail
      go_loopw [34] (fun iv wq => ∃ i : Nat, iv = .int .i64 (i : Int) ∧ i ≤ vs.length ∧ CrSt w wq ⟨g, bv, bg, .slice A0 vs.length c0⟩ D l vs i nl) (fun iv _ => vs.length - (intOf iv).toNat)
      case atStart => exact ⟨0, rfl, Nat.zero_le _, S0⟩
      case round =>
        clear S0
        obtain ⟨i, rfl, hi, hst⟩ := hrel
        have HST := Lib.hid hst
        have c2 : wr.cell? ⟨g, 2, none⟩ = some (.map (some bv)) := hst.blk.cell 2
        have c3 : wr.cell? ⟨g, 3, none⟩ = some (.map (some bg)) := hst.blk.cell 3
        have c4 : wr.cell? ⟨g, 4, none⟩ = some (.slice A0 vs.length c0) := hst.blk.cell 4
        have HFK : Hid (FinK (crashF l 0 (D.pend.take i) (D.ground, D.ng)).1 (crashF l 0 (D.pend.take i) (D.ground, D.ng)).2) := crashF_ok l _ 0 _ HOK.out.ground fun p hp => HOK.out.pend p (List.mem_of_mem_take hp)
        have hlenv := HVL.out
        by_cases hil : i < vs.length
        · obtain ⟨g', c', hv', _, hg'l, hcells, _⟩ := Ow.open hst.pend.1 (by omega)
          injection hv' with hA' _ hc'
          subst hA' hc'
          have cp : wr.cell? ⟨g', i, none⟩ = some vs[i] := hcells i hil
          have hps : i < D.pend.length := by omega
          have hpn := hst.pend.2.2 i vs[i] D.pend[i] (List.getElem?_eq_getElem hil) (List.getElem?_eq_getElem hps)
          obtain ⟨lm, hlm, hlv⟩ := hst.left
          have hii : InI (i : Int) := by unfold InI; omega
          have hlk := hlm.look intTy miTy (zeroInt wr) hii
          rw [hlv _ hii] at hlk
          have HEQ : Hid (crashF l 0 (D.pend.take (i + 1)) (D.ground, D.ng) = match fstOf l (i : Int) with | some n => doP (crashF l 0 (D.pend.take i) (D.ground, D.ng)) D.pend[i] n | none => crashF l 0 (D.pend.take i) (D.ground, D.ng)) := by
            rw [Hid, List.take_succ_eq_append_getElem hps, crashF_snoc, List.length_take, Nat.zero_add, Nat.min_eq_left (Nat.le_of_lt hps)]
            rfl
          obtain ⟨vq, hvq0⟩ : ∃ v, vs[i] = v := ⟨_, rfl⟩
          rw [hvq0] at cp hpn
          have hiv : (i : Int) < (vs.length : Int) := by omega
          have hi0 : (0 : Int) ≤ (i : Int) := by omega
          clear hst hcells hlm hlv hvq0 hlenv
          cases hk : fstOf l (i : Int) with
          | none =>
            rw [hk] at hlk
            simp only [Option.map_none, Option.getD_none, Option.isSome_none] at hlk
            have HEQ2 : Hid (crashF l 0 (D.pend.take (i + 1)) (D.ground, D.ng) = crashF l 0 (D.pend.take i) (D.ground, D.ng)) := by rw [Hid, HEQ.out, hk]
            cases hpe : D.pend[i] with
            | wr a b =>
              rw [hpe] at hpn
              obtain ⟨ga, Ab, cb, hvq, _⟩ := hpn
              rw [hvq] at cp
              clear hpe
              go_wp2_with fail
              go_roundw
              case rel => exact ⟨i + 1, by go_num, by omega, ⟨HST.out.blk, by rw [HEQ2.out]; exact HST.out.ground, HST.out.pend, HST.out.left, HST.out.turn, HST.out.bgl⟩⟩
              case measure => simp [intOf]; omega
            | fr a =>
              rw [hpe] at hpn
              obtain ⟨ga, hvq, _⟩ := hpn
              rw [hvq] at cp
              clear hpe
              go_wp2_with fail
              go_roundw
              case rel => exact ⟨i + 1, by go_num, by omega, ⟨HST.out.blk, by rw [HEQ2.out]; exact HST.out.ground, HST.out.pend, HST.out.left, HST.out.turn, HST.out.bgl⟩⟩
              case measure => simp [intOf]; omega
          | some n =>
            rw [hk] at hlk
            simp only [Option.map_some, Option.getD_some, Option.isSome_some] at hlk
            have hnI : InI n := fstOf_in HIN.out hk
            rw [hk] at HEQ
            simp only at HEQ
            cases hpe : D.pend[i] with
            | wr a b =>
              rw [hpe] at hpn
              have HPN := Lib.hid hpn
              have HEQ2 : Hid (crashF l 0 (D.pend.take (i + 1)) (D.ground, D.ng) = doP (crashF l 0 (D.pend.take i) (D.ground, D.ng)) (.wr a b) n) := by rw [Hid, HEQ.out, hpe]
              have HPO2 : Hid (PnOk (.wr a b)) := by rw [Hid, ← hpe]; exact HOK.out.pend _ (List.getElem_mem hps)
              obtain ⟨ga, Ab, cb, hvq, _⟩ := hpn
              rw [hvq] at cp
              have HCC : Hid (∀ args, (∃ caps, vq = .func (Fn.func 96) #[] caps ∧ args = #[.map (some bg), .int .i64 n] ++ caps) → Calls Tryz.prog 96 args wr fun e w' => e = .returned (.tuple #[]) ∧ Secs w' bg (doP (crashF l 0 (D.pend.take i) (D.ground, D.ng)) (.wr a b) n).1 (doP (crashF l 0 (D.pend.take i) (D.ground, D.ng)) (.wr a b) n).2 ∧ wr.grownBy w' (some bg)) := fun args hx => closure_call HPN.out HPO2.out HST.out.ground HFK.out hnI hx
              clear hpe
              go_wp2_with fail
              refine Calls.mono (HCC.out _ ⟨_, hvq, rfl⟩) ?_
              rintro e w3 ⟨rfl, hs3, hg3⟩
              have HS3 := Lib.hid hs3
              have HG3 := Lib.hid hg3
              clear hs3 hg3
              go_wp2_with fail
              go_roundw
              case rel =>
                repeat (apply Exists.intro)
                apply And.intro
                rotate_left 1
                · rfl
                all_goals first
                  | exact ⟨i + 1, by go_num, by omega, crst_step HST.out (by rw [HEQ2.out]; exact HS3.out) HG3.out⟩
                  | exact undef
              case measure => simp [intOf]; omega
            | fr a =>
              rw [hpe] at hpn
              have HPN := Lib.hid hpn
              have HEQ2 : Hid (crashF l 0 (D.pend.take (i + 1)) (D.ground, D.ng) = doP (crashF l 0 (D.pend.take i) (D.ground, D.ng)) (.fr a) n) := by rw [Hid, HEQ.out, hpe]
              have HPO2 : Hid (PnOk (.fr a)) := by rw [Hid, ← hpe]; exact HOK.out.pend _ (List.getElem_mem hps)
              obtain ⟨ga, hvq, _⟩ := hpn
              rw [hvq] at cp
              have HCC : Hid (∀ args, (∃ caps, vq = .func (Fn.func 91) #[] caps ∧ args = #[.map (some bg), .int .i64 n] ++ caps) → Calls Tryz.prog 91 args wr fun e w' => e = .returned (.tuple #[]) ∧ Secs w' bg (doP (crashF l 0 (D.pend.take i) (D.ground, D.ng)) (.fr a) n).1 (doP (crashF l 0 (D.pend.take i) (D.ground, D.ng)) (.fr a) n).2 ∧ wr.grownBy w' (some bg)) := fun args hx => closure_call HPN.out HPO2.out HST.out.ground HFK.out hnI hx
              clear hpe
              go_wp2_with fail
              refine Calls.mono (HCC.out _ ⟨_, hvq, rfl⟩) ?_
              rintro e w3 ⟨rfl, hs3, hg3⟩
              have HS3 := Lib.hid hs3
              have HG3 := Lib.hid hg3
              clear hs3 hg3
              go_wp2_with fail
              go_roundw
              case rel =>
                repeat (apply Exists.intro)
                apply And.intro
                rotate_left 1
                · rfl
                all_goals first
                  | exact ⟨i + 1, by go_num, by omega, crst_step HST.out (by rw [HEQ2.out]; exact HS3.out) HG3.out⟩
                  | exact undef
              case measure => simp [intOf]; omega
        · obtain rfl : i = vs.length := by omega
          have HEQ : Hid (D.pend.take vs.length = D.pend) := by rw [Hid, HVL.out, List.take_length]
          clear hst hlenv
          go_wp2_with fail
          refine (copied_any bg _ _ wr HST.out.ground HFK.out).mono ?_
          rintro e w1 ⟨bo, rfl, hbo, hs, hbl⟩
          have b1 := HST.out.blk.later hbl
          have HB1 := Lib.hid b1
          have HS := Lib.hid hs
          have HBL := Lib.hid hbl
          have c2 : w1.cell? ⟨g, 2, none⟩ = some (.map (some bv)) := b1.cell 2
          have c4 : w1.cell? ⟨g, 4, none⟩ = some _ := b1.cell 4
          have f2 := b1.free 2
          have f4 := b1.free 4
          clear b1 hs hbl
          go_wp2_with fail
          go_end0
          have kd := kind_blk HB1.out
          have b2 := HB1.out.put 2 (.map (some bo))
          have kd1 := kind_blk b2
          have hk : ∀ {b n : Nat} {f : SF}, Secs w1 b f n → Secs ((w1.setCell ⟨g, 2, none⟩ (.map (some bo))).setCell ⟨g, 4, none⟩ (.slice none 0 0)) b f n := fun hs => by
            have h1 := hs.other (z := g) (fun e => by have := hs.kind; rw [e] at this; rw [kd] at this; cases this) (by rw [kd]; decide) (grown_cell (g := g) (i := 2) (.map (some bo)))
            exact h1.other (z := g) (fun e => by have := h1.kind; rw [e] at this; rw [kd1] at this; cases this) (by rw [kd1]; decide) (grown_cell (g := g) (i := 4) (.slice none 0 0))
          have gr := HST.out.ground.later HBL.out
          have grl := HST.out.ground.lt
          rw [HEQ.out] at gr HS
          have hszq := HST.out.turn.size
          refine ⟨rfl, ⟨g, bo, bg, .slice none 0 0⟩, ⟨b2.put 4 _, hk HS.out, hk gr, fun e => by simp only at e grl; omega, [], World.ownsRow_nil _ _ _ _, PnL.nil _⟩, rfl, ((HST.out.turn.trans (Turn.of_below (F := fun _ => False) HBL.out) (fun _ h => h.elim)).setCell (.inl (.inl rfl)) _).setCell (.inl (.inl rfl)) _, fun b hb => ?_⟩
          rcases hb with h | h | h | h
          · exact .inl (.inl h)
          · right; simp only at h; omega
          · exact .inl (.inr (.inr (.inl h)))
          · cases h
    · obtain ⟨b, o, rfl, hbs, hc⟩ := HA.out (by omega)
      have hjl : j < l.length := by omega
      have c0 : wr.cell? ⟨b, o + j * 2, none⟩ = some (.int .i64 l[j].1) := (hbl.cell (p := ⟨b, o + j * 2, none⟩) hbs).trans (hc j hjl).1
      have c1 : wr.cell? ⟨b, o + j * 2 + 1, none⟩ = some (.int .i64 l[j].2) := (hbl.cell (p := ⟨b, o + j * 2 + 1, none⟩) hbs).trans (hc j hjl).2
      have hj0 : (0 : Int) ≤ (j : Int) := by omega
      have hjc : (j : Int) < (l.length : Int) := by omega
      have HLM := Lib.hid hlm.out
      have hwj : IntKind.i64.wrap ((j : Int) - 1) = (j : Int) - 1 := IntWalk.i64_in _ (by omega)
      have hij := HIN.out _ (List.getElem_mem hjl)
      have HFD := Lib.hid (fun a => fstOf_drop hjl a)
      obtain ⟨w3, hrun3, hm3, ht3⟩ := (MpV.drew HM.out).put intTy miTy (by unfold maxLen; omega) hij.1 (.int .i64 l[j].2)
      have HM3 := Lib.hid hm3
      have HT3 := Lib.hid ht3
      have HBL := Lib.hid (hbl.drew)
      have c0d : wr.drew.cell? ⟨b, o + j * 2, none⟩ = some (.int .i64 l[j].1) := c0
      have c1d : wr.drew.cell? ⟨b, o + j * 2 + 1, none⟩ = some (.int .i64 l[j].2) := c1
      generalize l[j].1 = p1 at *
      generalize l[j].2 = p2 at *
      clear hc hlm hbl hm3 ht3 hij
      go_wp2_with fail
      go_still_tail 11, (by kernel_rfl)
      change wpList _ _ _ _ _ wr.drew
      generalize wr.drew = w2 at *
      go_wp2_with fail
      go_roundw
      case rel =>
        refine ⟨j, _, _, by simp, by omega, ?_, HM3.out, fun a ha => ?_, HBL.out.grown HT3.out.grown HBL.out.size (fun k hk => by injection hk with hk; omega)⟩
        · unfold nPut; split <;> omega
        · simp only [HFD.out a]
          by_cases hap : a = p1
          · simp only [hap, if_true]; rfl
          · simp only [hap, if_false]
            exact HLM.out a ha
      case measure => first | (simp [intOf]; done) | (simp [intOf]; omega)
end Go.Proofs.YtojlldalhhibmaaGreatDoor

namespace Go.Proofs.YtojlldalhhibmaaGreatDoor
open Go Go.RowKit
set_option linter.unusedVariables false

/-- What a sector tells. -/
def tellsO : Option (List UInt8) → Option (Nat × List UInt8)
  | some s => tellsB s
  | none => none
def TlPost (f : SF) (a : Int) (w : World) (e : Ending) (w' : World) : Prop :=
  ∃ (r : Nat × List UInt8) (ok : Bool), e = .returned (.tuple #[recV r, .bool ok]) ∧ tellsO (f a) = (if ok then some r else none) ∧ Below w.heap.size w w'
theorem tl_none {f : SF} {a : Int} (r : Nat × List UInt8) {w w' : World} (h : tellsO (f a) = none) (hb : Below w.heap.size w w') : TlPost f a w (.returned (.tuple #[recV r, .bool false])) w' := ⟨r, false, rfl, h, hb⟩
theorem tl_some {f : SF} {a : Int} (r : Nat × List UInt8) {w w' : World} (h : tellsO (f a) = some r) (hb : Below w.heap.size w w') : TlPost f a w (.returned (.tuple #[recV r, .bool true])) w' := ⟨r, true, rfl, h, hb⟩

theorem tl_blk {W : World} {g : Nat} {t : TypeId} {a b : Value} (h : Blk W g t #[a, b]) (x y : Value) : Blk ((W.setCell ⟨g, 0, none⟩ x).setCell ⟨g, 1, none⟩ y).drew g t #[x, y] := (h.put 0 x).put 1 y
theorem tl_below {B : Nat} {w W : World} (h : Below B w W) {g : Nat} (hg : B ≤ g) (x y : Value) : Below B w ((W.setCell ⟨g, 0, none⟩ x).setCell ⟨g, 1, none⟩ y).drew := ((h.setCell (p := ⟨g, 0, none⟩) hg x).setCell (p := ⟨g, 1, none⟩) hg y).drew
theorem tells_out {f : SF} {a : Int} {s : List UInt8} (hv : f a = some s) : tellsO (f a) = tellsB s := by rw [hv]; rfl
end Go.Proofs.YtojlldalhhibmaaGreatDoor

namespace Go.Proofs.YtojlldalhhibmaaGreatDoor
open Go Go.RowKit
set_option linter.unusedVariables false

/-- Behind i sectors. -/
def mtUp (f : SF) (a : Int) : Nat → Nat × Int × List UInt8
  | 0 => (0, 1, [])
  | i + 1 => mtStep f a (mtUp f a i) (i : Int)
theorem mtOpen_eq (f : SF) (a : Int) : mtOpen f a = mtUp f a 2 := rfl
theorem mtStep_eq (f : SF) (a : Int) (x : Nat × Int × List UInt8) (i : Int) : mtStep f a x i = match tellsO (f (a + i)) with | some (q, t) => if x.1 < q then (q, i, t) else x | none => x := by
  unfold mtStep tellsO
  cases f (a + i) with
  | none => rfl
  | some s => rfl
theorem mtUp_empty (f : SF) (a : Int) : ∀ i, (mtUp f a i).1 = 0 → (mtUp f a i).2.2 = []
  | 0, _ => rfl
  | i + 1, h => by
    have ih := mtUp_empty f a i
    rw [mtUp, mtStep_eq] at h ⊢
    cases ht : tellsO (f (a + (i : Int))) with
    | none => rw [ht] at h; exact ih h
    | some x =>
      obtain ⟨q, t⟩ := x
      rw [ht] at h
      simp only at h ⊢
      by_cases hq : (mtUp f a i).1 < q
      · rw [if_pos hq] at h
        simp only at h
        omega
      · rw [if_neg hq] at h ⊢
        exact ih h
end Go.Proofs.YtojlldalhhibmaaGreatDoor

namespace Go.Proofs.YtojlldalhhibmaaGreatDoor
open Go Go.RowKit
set_option linter.unusedVariables false

end Go.Proofs.YtojlldalhhibmaaGreatDoor

namespace Go.Proofs.YtojlldalhhibmaaGreatDoor
open Go Go.RowKit
set_option linter.unusedVariables false

/-- Behind i of the steps. -/
def dAt (D : Dsk) (x : Int) (b : List UInt8) : Nat → Dsk
  | 0 => D
  | 1 => D.free x
  | 2 => (D.free x).sync
  | 3 => (D.free x).sync.write x b
  | _ => ((D.free x).sync.write x b).sync
theorem dAt_ok {D : Dsk} (h : D.Ok) (x : Int) (b : List UInt8) : ∀ i, (dAt D x b i).Ok
  | 0 => h
  | 1 => h.free x
  | 2 => (h.free x).sync
  | 3 => (h.free x).sync.write x b
  | _ + 4 => ((h.free x).sync.write x b).sync
theorem free_pend (D : Dsk) (x : Int) : (D.free x).pend.length ≤ D.pend.length + 1 := by
  unfold Dsk.free
  split
  · simp [Dsk.put]
  · omega
theorem write_pend (D : Dsk) (x : Int) (b : List UInt8) : (D.write x b).pend.length ≤ D.pend.length + 1 := by
  unfold Dsk.write
  split
  · simp [Dsk.put]
  · omega
theorem dAt_pend (D : Dsk) (x : Int) (b : List UInt8) : ∀ i, (dAt D x b i).pend.length ≤ D.pend.length + 1
  | 0 => Nat.le_succ _
  | 1 => free_pend D x
  | 2 => Nat.zero_le _
  | 3 => by have := write_pend (D.free x).sync x b; have e : (D.free x).sync.pend.length = 0 := rfl; show ((D.free x).sync.write x b).pend.length ≤ _; omega
  | _ + 4 => Nat.zero_le _
section
variable {D : Dsk} {a : Int} {num : Nat} {last : Int} {body : List UInt8} {k : Int}
theorem mtSteps_long (h : 480 < body.length) : mtSteps D a num last body k = ⟨D, num, last, false, 120⟩ := by unfold mtSteps; rw [if_pos h]
theorem mtSteps_stop {i : Nat} (h : ¬ 480 < body.length) (h3 : i ≤ 3) (hk : k ≤ (i : Int)) (hi : i = 0 ∨ (i : Int) ≤ k) (hw : 3 ≤ i → (dAt D (a + (1 - last)) (recB ((num + 1) % U64) body) 2).why (a + (1 - last)) (recB ((num + 1) % U64) body) = 0) :
    mtSteps D a num last body k = ⟨dAt D (a + (1 - last)) (recB ((num + 1) % U64) body) i, num, last, false, 0⟩ := by
  unfold mtSteps
  rw [if_neg h]
  match i, h3 with
  | 0, _ => rw [if_pos (by omega)]; rfl
  | 1, _ => rw [if_neg (by omega), if_pos (by omega)]; rfl
  | 2, _ => rw [if_neg (by omega), if_neg (by omega), if_pos (by omega)]; rfl
  | 3, _ => rw [if_neg (by omega), if_neg (by omega), if_neg (by omega), if_neg (fun h => h (hw (by omega))), if_pos (by omega)]; rfl
theorem mtSteps_err (h : ¬ 480 < body.length) (hk : 2 < k) (hw : (dAt D (a + (1 - last)) (recB ((num + 1) % U64) body) 2).why (a + (1 - last)) (recB ((num + 1) % U64) body) ≠ 0) :
    mtSteps D a num last body k = ⟨dAt D (a + (1 - last)) (recB ((num + 1) % U64) body) 2, num, last, false, (dAt D (a + (1 - last)) (recB ((num + 1) % U64) body) 2).why (a + (1 - last)) (recB ((num + 1) % U64) body)⟩ := by
  unfold mtSteps
  rw [if_neg h, if_neg (by omega), if_neg (by omega), if_neg (by omega)]
  exact if_pos hw
theorem mtSteps_done (h : ¬ 480 < body.length) (hk : 3 < k) (hw : (dAt D (a + (1 - last)) (recB ((num + 1) % U64) body) 2).why (a + (1 - last)) (recB ((num + 1) % U64) body) = 0) :
    mtSteps D a num last body k = ⟨dAt D (a + (1 - last)) (recB ((num + 1) % U64) body) 4, (num + 1) % U64, 1 - last, true, 0⟩ := by
  unfold mtSteps
  rw [if_neg h, if_neg (by omega), if_neg (by omega), if_neg (by omega), if_neg (fun h => h hw), if_neg (by omega)]
  rfl
end
/-- A block of yet another kind turned. -/
theorem Dk.other {w w' : World} {h : Zn} {D : Dsk} (d : Dk w h D) {z : Nat} {t : TypeId} (hz : kindAt w z = some (some t)) (ht : t ∉ [69, 106, 3, 73, 5]) (hg : w.grownBy w' (some z)) : Dk w' h D := by
  simp only [List.mem_cons, List.not_mem_nil, or_false, not_or] at ht
  obtain ⟨t1, t2, t3, t4, t5⟩ := ht
  obtain ⟨vs, h1, h2⟩ := d.pend
  have ne : ∀ {b : Nat} {k : Option TypeId}, kindAt w b = some k → k ≠ some t → b ≠ z := fun hb hk e => by subst e; rw [hz] at hb; injection hb with hb; exact hk hb.symm
  refine ⟨d.blk.grown hg (fun e => ?_), d.view.other (ne d.view.kind (by simp)) (by rw [hz]; simpa using t5) hg, d.ground.other (ne d.ground.kind (by simp)) (by rw [hz]; simpa using t5) hg, d.ne, vs, h1.other (fun e => ?_) hg, h2.keep fun v p hp => hp.other (fun s hs => ?_) hg⟩
  · injection e with e
    subst e
    have := kind_blk d.blk
    rw [hz] at this
    injection this with this
    injection this with this
    exact t1 this
  · have := kind_own h1 e
    rw [hz] at this
    injection this with this
    injection this with this
    exact t2 this
  · rw [hz]
    intro e
    injection e with e
    injection e with e
    subst e
    simp only [pnKinds, List.mem_cons, List.not_mem_nil, or_false] at hs
    rcases hs with h | h | h
    · exact t3 h
    · exact t4 h
    · exact t5 h
/-- A call on the meta page: the disk, the page's own block. -/
structure Mtp (h : Zn) (gm : Nat) (w : World) (h' : Zn) (w' : World) : Prop where
  g : h'.g = h.g
  turn : Turn (fun b => h.has b ∨ b = gm) w w'
  has : ∀ b, h'.has b → h.has b ∨ w.heap.size ≤ b
theorem Mtp.of_stp {h h' : Zn} {g : Nat} {w w' : World} (s : Stp h w h' w') : Mtp h g w h' w' := ⟨s.g, s.turn.mono fun b hb _ => .inl hb, s.has⟩
end Go.Proofs.YtojlldalhhibmaaGreatDoor

namespace Go.Proofs.YtojlldalhhibmaaGreatDoor
open Go Go.RowKit
set_option linter.unusedVariables false

end Go.Proofs.YtojlldalhhibmaaGreatDoor

namespace Go.Proofs.YtojlldalhhibmaaGreatDoor
open Go
set_option linter.unusedVariables false

theorem tellsB_pos {s : List UInt8} {q : Nat} {t : List UInt8} (h : tellsB s = some (q, t)) : 0 < q := by
  unfold tellsB at h
  split at h
  · split at h
    · rename_i hc
      injection h with h
      injection h with h1 h2
      omega
    · cases h
  · cases h
theorem tellsO_pos {o : Option (List UInt8)} {q : Nat} {t : List UInt8} (h : tellsO o = some (q, t)) : 0 < q := by
  cases o with
  | none => cases h
  | some s => exact tellsB_pos h
theorem tells_rec {q : Nat} {t : List UInt8} (hq : q < U64) (hq0 : 0 < q) (ht : t.length ≤ 32768) : tellsB (recB q t) = some (q, t) := by
  have := recGet_put hq ht []
  rw [List.append_nil] at this
  unfold tellsB
  rw [this]
  exact if_pos ⟨rfl, hq0⟩
theorem tells_torn {q : Nat} {t : List UInt8} (hq : q < U64) (hq0 : 0 < q) (ht : t.length ≤ 32768) (n : Int) : tellsB (tornB (recB q t) [] n) = none ∨ tornB (recB q t) [] n = recB q t := by
  unfold tornB
  by_cases h : n.toNat < (recB q t).length
  · left
    rw [if_pos h, List.drop_nil, List.append_nil]
    unfold tellsB
    rw [recGet_cut hq ht h]
  · right
    rw [if_neg h]
theorem recB_short {q : Nat} {t : List UInt8} (hq : q < U64) (ht : t.length ≤ 480) : (recB q t).length ≤ 512 := by
  have h1 := varB_le10 hq
  have h2 := varB_le 1 t.length (by omega)
  rw [recB_len]
  unfold recF
  rw [List.length_append, List.length_append]
  omega

/-- What the page tells: two sectors alone are in use. -/
structure Mi (f : SF) (a : Int) (num : Nat) (last : Int) (body : List UInt8) : Prop where
  only : ∀ x, (f x).isSome = true → x = a ∨ x = a + 1
  l01 : last = 0 ∨ last = 1
  zero : num = 0 → last = 1 ∧ body = [] ∧ tellsO (f (a + last)) = none ∧ tellsO (f (a + (1 - last))) = none
  pos : 0 < num → tellsO (f (a + last)) = some (num, body) ∧ ∀ q t, tellsO (f (a + (1 - last))) = some (q, t) → q < num
section
variable {f : SF} {a : Int} {num : Nat} {last : Int} {body : List UInt8}
theorem Mi.start (a : Int) : Mi (fun _ => none) a 0 1 [] := ⟨fun _ h => (by cases h), .inr rfl, fun _ => ⟨rfl, rfl, rfl, rfl⟩, fun h => absurd h (by omega)⟩
theorem Mi.open (h : Mi f a num last body) : mtOpen f a = (num, last, body) := by
  rw [mtOpen_eq, mtUp, mtUp, mtUp, mtStep_eq, mtStep_eq]
  rw [show a + ((0 : Nat) : Int) = a + 0 by simp, show a + ((0 + 1 : Nat) : Int) = a + 1 by simp]
  rcases Nat.eq_zero_or_pos num with h0 | h0
  · obtain ⟨rfl, rfl, h1, h2⟩ := h.zero h0
    rw [show a + (1 - 1 : Int) = a + 0 by omega] at h2
    rw [h1, h2]
    subst h0
    rfl
  · obtain ⟨h1, h2⟩ := h.pos h0
    rcases h.l01 with rfl | rfl
    · rw [show a + (1 - 0 : Int) = a + 1 by omega] at h2
      rw [h1]
      simp only
      rw [if_pos h0]
      cases ht : tellsO (f (a + 1)) with
      | none => rfl
      | some y =>
        obtain ⟨q, t⟩ := y
        have := h2 q t ht
        simp only
        rw [if_neg (by omega)]
        rfl
    · rw [show a + (1 - 1 : Int) = a + 0 by omega] at h2
      rw [h1]
      cases ht : tellsO (f (a + 0)) with
      | none => simp only; rw [if_pos h0]; rfl
      | some y =>
        obtain ⟨q, t⟩ := y
        have h3 := h2 q t ht
        have h4 := tellsO_pos ht
        simp only
        rw [if_pos h4]
        simp only
        rw [if_pos h3]
        rfl
theorem ne_of_l01 (h : last = 0 ∨ last = 1) : a + last ≠ a + (1 - last) := by omega
theorem Mi.del (h : Mi f a num last body) : Mi (f.del (a + (1 - last))) a num last body := by
  have hne := ne_of_l01 (a := a) h.l01
  have e1 : (f.del (a + (1 - last))) (a + last) = f (a + last) := if_neg hne
  have e2 : (f.del (a + (1 - last))) (a + (1 - last)) = none := if_pos rfl
  refine ⟨fun x hx => ?_, h.l01, fun h0 => ?_, fun h0 => ?_⟩
  · unfold SF.del at hx
    split at hx
    · cases hx
    · exact h.only x hx
  · obtain ⟨h1, h2, h3, h4⟩ := h.zero h0
    rw [e1, e2]
    exact ⟨h1, h2, h3, rfl⟩
  · rw [e1, e2]
    exact ⟨(h.pos h0).1, fun q t hq => by cases hq⟩
theorem Mi.put_only (h : Mi f a num last body) (b : List UInt8) : ∀ x, ((f.put (a + (1 - last)) b) x).isSome = true → x = a ∨ x = a + 1 := by
  intro x hx
  unfold SF.put at hx
  split at hx
  · have := h.l01; omega
  · exact h.only x hx
theorem Mi.put_none (h : Mi f a num last body) {b : List UInt8} (hb : tellsB b = none) : Mi (f.put (a + (1 - last)) b) a num last body := by
  have hne := ne_of_l01 (a := a) h.l01
  have e1 : (f.put (a + (1 - last)) b) (a + last) = f (a + last) := if_neg hne
  have e2 : (f.put (a + (1 - last)) b) (a + (1 - last)) = some b := if_pos rfl
  refine ⟨h.put_only b, h.l01, fun h0 => ?_, fun h0 => ?_⟩
  · obtain ⟨h1, h2, h3, h4⟩ := h.zero h0
    rw [e1, e2]
    exact ⟨h1, h2, h3, hb⟩
  · rw [e1, e2]
    exact ⟨(h.pos h0).1, fun q t hq => by have : tellsO (some b) = none := hb; rw [this] at hq; cases hq⟩
theorem Mi.put_new (h : Mi f a num last body) {b t : List UInt8} (hb : tellsB b = some (num + 1, t)) : Mi (f.put (a + (1 - last)) b) a (num + 1) (1 - last) t := by
  have hne := ne_of_l01 (a := a) h.l01
  have e1 : (f.put (a + (1 - last)) b) (a + last) = f (a + last) := if_neg hne
  have e2 : (f.put (a + (1 - last)) b) (a + (1 - last)) = some b := if_pos rfl
  refine ⟨h.put_only b, by have := h.l01; omega, fun h0 => by omega, fun _ => ?_⟩
  rw [show 1 - (1 - last) = last by omega, e1, e2]
  refine ⟨hb, fun q t' hq => ?_⟩
  rcases Nat.eq_zero_or_pos num with h0 | h0
  · rw [(h.zero h0).2.2.1] at hq; cases hq
  · rw [(h.pos h0).1] at hq
    injection hq with hq
    injection hq with hq
    omega
end
theorem two_le {p q : Int} : ∀ (l : List Int), l.Nodup → (∀ x ∈ l, x = p ∨ x = q) → l.length ≤ 2
  | [], _, _ => by simp
  | [_], _, _ => by simp
  | [_, _], _, _ => by simp
  | x :: y :: z :: r, hn, h => by
    have h1 := h x (by simp)
    have h2 := h y (by simp)
    have h3 := h z (by simp)
    simp only [List.nodup_cons, List.mem_cons, not_or] at hn
    omega
theorem FinK.two {f : SF} {n : Nat} (h : FinK f n) {a : Int} (ho : ∀ x, (f x).isSome = true → x = a ∨ x = a + 1) : n ≤ 2 := by
  obtain ⟨l, h1, _⟩ := h
  have := two_le (l.map (·.1)) h1.nodup fun x hx => ho x ((h1.has x).2 hx)
  rw [List.length_map, h1.len] at this
  exact this

/-- Nothing is pending. -/
structure Mr (D : Dsk) (a : Int) (num : Nat) (last : Int) (body : List UInt8) : Prop where
  pend : D.pend = []
  ground : D.ground = D.view
  ng : D.ng = D.nv
  mi : Mi D.view a num last body
  ok : D.Ok
  a0 : 0 ≤ a
  a1 : a + 1 < D.size
  lim : 2 < D.limit
section
variable {D : Dsk} {a : Int} {num : Nat} {last : Int} {body t : List UInt8}
theorem Mr.nv (h : Mr D a num last body) : D.nv ≤ 2 := h.ok.view.two h.mi.only
theorem Mr.start {n : Int} (hn : 3 ≤ n) (hn2 : n ≤ 65536) (h0 : 0 ≤ a) (h1 : a + 1 < n) : Mr (Dsk.new n) a 0 1 [] := ⟨rfl, rfl, rfl, Mi.start a, Dsk.Ok.new (by omega) hn2, h0, h1, by simp [Dsk.new]; omega⟩
theorem free_view (D : Dsk) (x : Int) : (D.free x).view = D.view.del x := by
  unfold Dsk.free
  split
  · rfl
  · rename_i hs
    funext y
    unfold SF.del
    split
    · subst y
      cases hv : D.view x with
      | none => rfl
      | some _ => rw [hv] at hs; simp at hs
    · rfl
theorem free_same (D : Dsk) (x : Int) : (D.free x).ground = D.ground ∧ (D.free x).ng = D.ng ∧ (D.free x).size = D.size ∧ (D.free x).limit = D.limit := by
  unfold Dsk.free
  split
  · exact ⟨rfl, rfl, rfl, rfl⟩
  · exact ⟨rfl, rfl, rfl, rfl⟩
/-- Freed and synced. -/
theorem Mr.two (h : Mr D a num last body) : Mr (D.free (a + (1 - last))).sync a num last body := by
  have hs := free_same D (a + (1 - last))
  refine ⟨rfl, rfl, rfl, ?_, (h.ok.free _).sync, h.a0, ?_, ?_⟩
  · show Mi (D.free (a + (1 - last))).view a num last body
    rw [free_view]
    exact h.mi.del
  · show a + 1 < (D.free (a + (1 - last))).size
    rw [hs.2.2.1]
    exact h.a1
  · show 2 < (D.free (a + (1 - last))).limit
    rw [hs.2.2.2]
    exact h.lim
theorem Mr.why (h : Mr D a num last body) {b : List UInt8} (hb : b.length ≤ 512) : D.why (a + (1 - last)) b = 0 := by
  unfold Dsk.why
  have h1 := h.nv
  have h2 := h.lim
  have h3 := h.a1
  have h4 := h.a0
  have h5 := h.mi.l01
  rw [if_neg (by omega), if_neg (by omega), if_neg (fun hh => by have := hh.2; omega)]
/-- What is put in the ground and the view. -/
theorem Mr.put (h : Mr D a num last body) {b : List UInt8} (hb : b.length ≤ 512) {num' : Nat} {last' : Int} (hm : Mi (D.view.put (a + (1 - last)) b) a num' last' t) {D' : Dsk} (h1 : D'.pend = []) (h2 : D'.ground = D'.view) (h3 : D'.ng = D'.nv) (h4 : D'.view = D.view.put (a + (1 - last)) b) (h5 : D'.Ok) (h6 : D'.size = D.size) (h7 : D'.limit = D.limit) : Mr D' a num' last' t :=
  ⟨h1, h2, h3, by rw [h4]; exact hm, h5, h.a0, by rw [h6]; exact h.a1, by rw [h7]; exact h.lim⟩
theorem write_view {x : Int} {b : List UInt8} (hw : D.why x b = 0) : D.write x b = D.put (.wr x b) b.length := by unfold Dsk.write; rw [if_pos hw]
theorem put_view (D : Dsk) (x : Int) (b : List UInt8) : (D.put (.wr x b) b.length).view = D.view.put x b := by
  show (doP (D.view, D.nv) (.wr x b) b.length).1 = _
  unfold doP
  simp only
  rw [tornB_all]
/-- Behind i steps, and a crash. -/
theorem Mr.crash (h : Mr D a num last body) (hn : num + 1 < U64) (ht : t.length ≤ 480) (l : List (Int × Int)) : ∀ i, i ≤ 4 →
    (i ≤ 3 ∧ Mr ((dAt D (a + (1 - last)) (recB (num + 1) t) i).crash l) a num last body) ∨ (3 ≤ i ∧ Mr ((dAt D (a + (1 - last)) (recB (num + 1) t) i).crash l) a (num + 1) (1 - last) t) := by
  have hb := recB_short hn ht
  have hx0 : (D.free (a + (1 - last))).sync.view (a + (1 - last)) = none := by
    show (D.free (a + (1 - last))).view _ = none
    rw [free_view]
    exact if_pos rfl
  have hw := h.two.why hb
  have hok := dAt_ok h.ok (a + (1 - last)) (recB (num + 1) t)
  intro i hi
  have hc := (hok i).crash l
  match i, hi with
  | 0, _ =>
    left
    refine ⟨by omega, ?_⟩
    have e : crashF l 0 (dAt D (a + (1 - last)) (recB (num + 1) t) 0).pend (D.ground, D.ng) = (D.ground, D.ng) := by
      show crashF l 0 D.pend _ = _
      rw [h.pend]; rfl
    refine ⟨rfl, rfl, rfl, ?_, hc, h.a0, h.a1, h.lim⟩
    show Mi (crashF l 0 D.pend (D.ground, D.ng)).1 a num last body
    rw [show crashF l 0 D.pend (D.ground, D.ng) = (D.ground, D.ng) from e, h.ground]
    exact h.mi
  | 1, _ =>
    left
    refine ⟨by omega, ?_⟩
    have hs := free_same D (a + (1 - last))
    refine ⟨rfl, rfl, rfl, ?_, hc, h.a0, ?_, ?_⟩
    · show Mi (crashF l 0 (D.free (a + (1 - last))).pend ((D.free (a + (1 - last))).ground, (D.free (a + (1 - last))).ng)).1 a num last body
      rw [hs.1, hs.2.1, h.ground]
      unfold Dsk.free
      split
      · show Mi (crashF l 0 (D.pend ++ [.fr (a + (1 - last))]) (D.view, D.ng)).1 a num last body
        rw [h.pend]
        show Mi (match keptN l 0 with | some n => doP (D.view, D.ng) (.fr (a + (1 - last))) n | none => (D.view, D.ng)).1 a num last body
        cases keptN l 0 with
        | none => exact h.mi
        | some n => exact h.mi.del
      · rw [h.pend]
        exact h.mi
    · show a + 1 < (D.free (a + (1 - last))).size
      rw [hs.2.2.1]; exact h.a1
    · show 2 < (D.free (a + (1 - last))).limit
      rw [hs.2.2.2]; exact h.lim
  | 2, _ =>
    left
    refine ⟨by omega, ?_⟩
    have h2 := h.two
    exact ⟨rfl, rfl, rfl, h2.mi, hc, h.a0, h2.a1, h2.lim⟩
  | 3, _ =>
    have h2 := h.two
    have hc3 : ((D.free (a + (1 - last))).sync.write (a + (1 - last)) (recB (num + 1) t)).crash l = (((D.free (a + (1 - last))).sync.put (.wr (a + (1 - last)) (recB (num + 1) t)) (recB (num + 1) t).length).crash l) := by rw [write_view hw]
    have hc' := hc
    rw [show dAt D (a + (1 - last)) (recB (num + 1) t) 3 = (D.free (a + (1 - last))).sync.write (a + (1 - last)) (recB (num + 1) t) from rfl] at hc' ⊢
    rw [hc3] at hc' ⊢
    have hgr : crashF l 0 ((D.free (a + (1 - last))).sync.put (.wr (a + (1 - last)) (recB (num + 1) t)) (recB (num + 1) t).length).pend ((D.free (a + (1 - last))).sync.view, (D.free (a + (1 - last))).sync.nv) =
        match keptN l 0 with | some n => doP ((D.free (a + (1 - last))).sync.view, (D.free (a + (1 - last))).sync.nv) (.wr (a + (1 - last)) (recB (num + 1) t)) n | none => ((D.free (a + (1 - last))).sync.view, (D.free (a + (1 - last))).sync.nv) := rfl
    cases hk : keptN l 0 with
    | none =>
      rw [hk] at hgr
      left
      refine ⟨by omega, rfl, rfl, rfl, ?_, hc', h.a0, h2.a1, h2.lim⟩
      show Mi (crashF l 0 _ _).1 a num last body
      rw [show crashF l 0 ((D.free (a + (1 - last))).sync.put (.wr (a + (1 - last)) (recB (num + 1) t)) (recB (num + 1) t).length).pend (((D.free (a + (1 - last))).sync.put (.wr (a + (1 - last)) (recB (num + 1) t)) (recB (num + 1) t).length).ground, ((D.free (a + (1 - last))).sync.put (.wr (a + (1 - last)) (recB (num + 1) t)) (recB (num + 1) t).length).ng) = _ from hgr]
      exact h2.mi
    | some n =>
      rw [hk] at hgr
      have hv : (((D.free (a + (1 - last))).sync.put (.wr (a + (1 - last)) (recB (num + 1) t)) (recB (num + 1) t).length).crash l).view = (D.free (a + (1 - last))).sync.view.put (a + (1 - last)) (tornB (recB (num + 1) t) [] n) := by
        show (crashF l 0 _ _).1 = _
        rw [show crashF l 0 ((D.free (a + (1 - last))).sync.put (.wr (a + (1 - last)) (recB (num + 1) t)) (recB (num + 1) t).length).pend (((D.free (a + (1 - last))).sync.put (.wr (a + (1 - last)) (recB (num + 1) t)) (recB (num + 1) t).length).ground, ((D.free (a + (1 - last))).sync.put (.wr (a + (1 - last)) (recB (num + 1) t)) (recB (num + 1) t).length).ng) = _ from hgr]
        unfold doP
        simp only
        rw [hx0]
        rfl
      rcases tells_torn hn (Nat.succ_pos num) (by omega) n (t := t) with h3 | h3
      · left
        exact ⟨by omega, rfl, rfl, rfl, by rw [hv]; exact h2.mi.put_none h3, hc', h.a0, h2.a1, h2.lim⟩
      · right
        exact ⟨by omega, rfl, rfl, rfl, by rw [hv, h3]; exact h2.mi.put_new (tells_rec hn (Nat.succ_pos num) (by omega)), hc', h.a0, h2.a1, h2.lim⟩
  | 4, _ =>
    right
    have h2 := h.two
    have hs : ((D.free (a + (1 - last))).sync.write (a + (1 - last)) (recB (num + 1) t)) = (D.free (a + (1 - last))).sync.put (.wr (a + (1 - last)) (recB (num + 1) t)) (recB (num + 1) t).length := write_view hw
    have hc' := hc
    rw [show dAt D (a + (1 - last)) (recB (num + 1) t) 4 = ((D.free (a + (1 - last))).sync.write (a + (1 - last)) (recB (num + 1) t)).sync from rfl] at hc' ⊢
    rw [hs] at hc' ⊢
    refine ⟨by omega, rfl, rfl, rfl, ?_, hc', h.a0, h2.a1, h2.lim⟩
    show Mi ((D.free (a + (1 - last))).sync.put (.wr (a + (1 - last)) (recB (num + 1) t)) (recB (num + 1) t).length).view a (num + 1) (1 - last) t
    rw [put_view]
    exact h2.mi.put_new (tells_rec hn (Nat.succ_pos num) (by omega))
/-- A crash behind three steps, where the write wasn't kept; where all of it was. -/
theorem Mr.crash3 (h : Mr D a num last body) (hn : num + 1 < U64) (ht : t.length ≤ 480) (l : List (Int × Int)) :
    (keptN l 0 = none → Mr ((dAt D (a + (1 - last)) (recB (num + 1) t) 3).crash l) a num last body) ∧
    ∀ n, keptN l 0 = some n → (recB (num + 1) t).length ≤ n.toNat → Mr ((dAt D (a + (1 - last)) (recB (num + 1) t) 3).crash l) a (num + 1) (1 - last) t := by
  have hb := recB_short hn ht
  have hw := h.two.why hb
  have h2 := h.two
  have hc' := (dAt_ok h.ok (a + (1 - last)) (recB (num + 1) t) 3).crash l
  rw [show dAt D (a + (1 - last)) (recB (num + 1) t) 3 = (D.free (a + (1 - last))).sync.write (a + (1 - last)) (recB (num + 1) t) from rfl, write_view hw] at hc' ⊢
  have hgr : crashF l 0 ((D.free (a + (1 - last))).sync.put (.wr (a + (1 - last)) (recB (num + 1) t)) (recB (num + 1) t).length).pend ((D.free (a + (1 - last))).sync.view, (D.free (a + (1 - last))).sync.nv) =
      match keptN l 0 with | some n => doP ((D.free (a + (1 - last))).sync.view, (D.free (a + (1 - last))).sync.nv) (.wr (a + (1 - last)) (recB (num + 1) t)) n | none => ((D.free (a + (1 - last))).sync.view, (D.free (a + (1 - last))).sync.nv) := rfl
  refine ⟨fun hk => ?_, fun n hk hln => ?_⟩
  · rw [hk] at hgr
    refine ⟨rfl, rfl, rfl, ?_, hc', h.a0, h2.a1, h2.lim⟩
    show Mi (crashF l 0 _ _).1 a num last body
    rw [show crashF l 0 ((D.free (a + (1 - last))).sync.put (.wr (a + (1 - last)) (recB (num + 1) t)) (recB (num + 1) t).length).pend (((D.free (a + (1 - last))).sync.put (.wr (a + (1 - last)) (recB (num + 1) t)) (recB (num + 1) t).length).ground, ((D.free (a + (1 - last))).sync.put (.wr (a + (1 - last)) (recB (num + 1) t)) (recB (num + 1) t).length).ng) = _ from hgr]
    exact h2.mi
  · rw [hk] at hgr
    have hv : (((D.free (a + (1 - last))).sync.put (.wr (a + (1 - last)) (recB (num + 1) t)) (recB (num + 1) t).length).crash l).view = (D.free (a + (1 - last))).sync.view.put (a + (1 - last)) (recB (num + 1) t) := by
      show (crashF l 0 _ _).1 = _
      rw [show crashF l 0 ((D.free (a + (1 - last))).sync.put (.wr (a + (1 - last)) (recB (num + 1) t)) (recB (num + 1) t).length).pend (((D.free (a + (1 - last))).sync.put (.wr (a + (1 - last)) (recB (num + 1) t)) (recB (num + 1) t).length).ground, ((D.free (a + (1 - last))).sync.put (.wr (a + (1 - last)) (recB (num + 1) t)) (recB (num + 1) t).length).ng) = _ from hgr]
      unfold doP
      simp only
      unfold tornB
      rw [if_neg (by omega)]
    exact ⟨rfl, rfl, rfl, by rw [hv]; exact h2.mi.put_new (tells_rec hn (Nat.succ_pos num) (by omega)), hc', h.a0, h2.a1, h2.lim⟩
/-- All steps done. -/
theorem Mr.done (h : Mr D a num last body) (hn : num + 1 < U64) (ht : t.length ≤ 480) : Mr (dAt D (a + (1 - last)) (recB (num + 1) t) 4) a (num + 1) (1 - last) t := by
  have hb := recB_short hn ht
  have hw := h.two.why hb
  have h2 := h.two
  have hs : ((D.free (a + (1 - last))).sync.write (a + (1 - last)) (recB (num + 1) t)) = (D.free (a + (1 - last))).sync.put (.wr (a + (1 - last)) (recB (num + 1) t)) (recB (num + 1) t).length := write_view hw
  have hok := dAt_ok h.ok (a + (1 - last)) (recB (num + 1) t) 4
  rw [show dAt D (a + (1 - last)) (recB (num + 1) t) 4 = ((D.free (a + (1 - last))).sync.write (a + (1 - last)) (recB (num + 1) t)).sync from rfl] at hok ⊢
  rw [hs] at hok ⊢
  refine ⟨rfl, rfl, rfl, ?_, hok, h.a0, h2.a1, h2.lim⟩
  show Mi ((D.free (a + (1 - last))).sync.put (.wr (a + (1 - last)) (recB (num + 1) t)) (recB (num + 1) t).length).view a (num + 1) (1 - last) t
  rw [put_view]
  exact h2.mi.put_new (tells_rec hn (Nat.succ_pos num) (by omega))
/-- How far the steps come. -/
def stepI (k : Int) : Nat := if k < 1 then 0 else if k < 2 then 1 else if k < 3 then 2 else if k < 4 then 3 else 4
theorem stepI_le (k : Int) : stepI k ≤ 4 := by unfold stepI; split <;> (try split) <;> (try split) <;> (try split) <;> omega
theorem Mr.steps (h : Mr D a num last body) (hn : num + 1 < U64) (ht : t.length ≤ 480) (k : Int) :
    mtSteps D a num last t k = ⟨dAt D (a + (1 - last)) (recB (num + 1) t) (stepI k), if stepI k = 4 then num + 1 else num, if stepI k = 4 then 1 - last else last, decide (stepI k = 4), 0⟩ := by
  have hb := recB_short hn ht
  have hw := h.two.why hb
  have e : (num + 1) % U64 = num + 1 := Nat.mod_eq_of_lt hn
  unfold mtSteps
  rw [if_neg (by omega), e]
  unfold stepI
  by_cases h1 : k < 1
  · rw [if_pos h1, if_pos h1]; rfl
  · rw [if_neg h1, if_neg h1]
    by_cases h2 : k < 2
    · rw [if_pos h2, if_pos h2]; rfl
    · rw [if_neg h2, if_neg h2]
      by_cases h3 : k < 3
      · rw [if_pos h3, if_pos h3]; rfl
      · rw [if_neg h3, if_neg h3, if_neg (fun hh => hh hw)]
        by_cases h4 : k < 4
        · rw [if_pos h4, if_pos h4]; rfl
        · rw [if_neg h4, if_neg h4]; rfl
end
end Go.Proofs.YtojlldalhhibmaaGreatDoor

namespace Go.Proofs.YtojlldalhhibmaaGreatDoor
open Go Go.RowKit
set_option linter.unusedVariables false

/-- append onto an empty slice of one's own: memory only grows. -/
theorem run_append_new {P : Program} (w : World) {base : Nat} {t e : TypeId} {z : Value} {size bytes : Nat} (E : Elem P t e z size bytes) (ty : TypeId)
    {g : Nat} (hown : w.ownsRow base e size (.slice (some ⟨g, 0, none⟩) 0 0) 0 [])
    {S : Nat → Prop} {u : Value} {m : Nat} {news : List Value} (hr : Sl S w size u m news) (hlen : m ≤ maxLen) (hbytes : m * bytes ≤ 140737488355328) (hbase : base ≤ w.heap.size) :
    ∃ v' w', (Builtin.append_ #[t, t] ty #[.slice (some ⟨g, 0, none⟩) 0 0, u]).run P w = .ok v' w' ∧ w'.ownsRow base e size v' m news ∧ Below w.heap.size w w' := by
  obtain ⟨hl, A, c, rfl, hmc, hcm, hA0, hA⟩ := hr
  have hE := E
  obtain ⟨i, hi, hz, hsz, hby⟩ := E.info
  rcases Nat.eq_zero_or_pos m with hm | hm
  · subst hm
    obtain rfl : news = [] := List.eq_nil_of_length_eq_zero (by simpa using hl)
    refine ⟨_, w, ?_, hown, Below.refl _ _⟩
    rcases A with _ | ad
    · exact run_append_nilsrc w hE ty hown c
    · simp [Builtin.append_, run_underlying E.under, sizeOf, typeInfo, hi, Builtin.lenOf, Builtin.firstCells, loadCells, loadCellsFrom, storeCells]
  · obtain ⟨b, o, rfl, _, hc⟩ := hA hm
    have hsmall : m ≤ 9223372036854775807 := by simp only [maxLen] at hlen; omega
    subst hsz hby
    have hr := run_append_grow (P := P) w t ty e i z E.under hi hz ⟨g, 0, none⟩ 0 0 [] (by simp) (by intro j v hj; simp at hj) ⟨b, o, none⟩ m c news hl (fun j v hj => by rw [addr_add_none]; exact hc j v hj) (by omega) (by omega) (growslice_fits (by omega) (by simpa using hbytes))
    have hge := grownCap_ge w m 0 e
    have hcm : grownCap w m 0 e ≤ maxLen := grownCap_le_maxLen w m 0 e hlen
    simp only [Nat.zero_add] at hr
    refine ⟨_, _, hr, ⟨hl, .inr ⟨w.heap.size, _, _, rfl, hbase, heap_alloc_new w.drew _, hge, hcm, ?_, ?_⟩⟩, (Below.refl w.heap.size w).drew.alloc (by simp) _⟩
    · simp only [Array.size_append, List.size_toArray, size_zeroCells, E.cells, hl, List.length_nil, Nat.zero_add, ← Nat.add_mul]
      congr 1
      omega
    · simp only [Array.toList_append, List.nil_append]
      rw [← hl]
      exact List.take_left
theorem grows_append {P : Program} {o : Oper} {a : Act} {w w' : World} {V : VP} {t : TypeId} {v u v' : Value} (s x : Operand) (ho : o.op = .call { callee := .builtin .append, args := #[s, x], argTypes := #[t, t] }) (hs : a.eval s = v) (hx : a.eval x = u)
    (hrun : (Builtin.append_ #[t, t] o.type #[v, u]).run P w = .ok v' w') (hb : Below w.heap.size w w') (hV : V v' w') : grows P o a w V := by
  unfold grows execOp
  simp only [ho, resolve, invoke, builtin, Sem.run_bind, Sem.run_pure, Result.andThen_ok, List.map_toArray, List.map_cons, List.map_nil, hs, hx, hrun]
  exact ⟨hb, hV⟩

/-- Sectors of one's own. -/
def VSec (B : Nat) (f : SF) (n : Nat) : VP := fun v w => ∃ b, v = .map (some b) ∧ B ≤ b ∧ Secs w b f n
theorem Stays.sec (B : Nat) (f : SF) (n : Nat) : Stays (VSec B f n) := fun _ _ _ hb ⟨b, h1, h2, h3⟩ => ⟨b, h1, h2, h3.later hb⟩
def VOwn (e : TypeId) (B : Nat) (vs : List Value) : VP := fun v w => Ow e w B v vs
theorem Stays.own (e : TypeId) (B : Nat) (vs : List Value) : Stays (VOwn e B vs) := fun _ _ _ hb h => h.later hb
def VEmp (e : TypeId) (B : Nat) : VP := fun v w => ∃ g, v = .slice (some ⟨g, 0, none⟩) 0 0 ∧ Ow e w B v []
theorem Stays.emp (e : TypeId) (B : Nat) : Stays (VEmp e B) := fun _ _ _ hb ⟨g, h1, h2⟩ => ⟨g, h1, h2.later hb⟩
/-- A disk of one's own, as a struct value; in a block. -/
def VCp (B : Nat) (D : Dsk) (vs : List Value) : VP := fun v w => ∃ bv bg sl, v = .agg #[.int .i64 D.size, .int .i64 D.limit, .map (some bv), .map (some bg), sl] ∧ B ≤ bv ∧ B ≤ bg ∧ Secs w bv D.view D.nv ∧ Secs w bg D.ground D.ng ∧ Ow 106 w B sl vs
theorem Stays.cp (B : Nat) (D : Dsk) (vs : List Value) : Stays (VCp B D vs) := fun _ _ _ hb ⟨bv, bg, sl, h1, h2, h3, h4, h5, h6⟩ => ⟨bv, bg, sl, h1, h2, h3, h4.later hb, h5.later hb, h6.later hb⟩
def VCb (B : Nat) (D : Dsk) (vs : List Value) : VP := fun v w => ∃ g bv bg sl, v = .pointer (some ⟨g, 0, none⟩) ∧ B ≤ g ∧ Blk w g 69 #[.int .i64 D.size, .int .i64 D.limit, .map (some bv), .map (some bg), sl] ∧ B ≤ bv ∧ B ≤ bg ∧ Secs w bv D.view D.nv ∧ Secs w bg D.ground D.ng ∧ Ow 106 w B sl vs
theorem Stays.cb (B : Nat) (D : Dsk) (vs : List Value) : Stays (VCb B D vs) := fun _ _ _ hb ⟨g, bv, bg, sl, h1, h2, h3, h4, h5, h6, h7, h8⟩ => ⟨g, bv, bg, sl, h1, h2, h3.later hb, h4, h5, h6.later hb, h7.later hb, h8.later hb⟩

theorem MpV.alike {P : Program} {k : TypeId} {w : World} {b n n' : Nat} {f g : Int → Option Value} (h : MpV P k w b f n) (h' : MpV P k w b g n') {a : Int} (ha : InI a) : (f a).isSome = (g a).isSome := by
  obtain ⟨D, ⟨es, cl, hb, _, _, hD⟩, _, h3⟩ := h
  obtain ⟨D', ⟨es', cl', hb', _, _, hD'⟩, _, h3'⟩ := h'
  rw [hb] at hb'
  injection hb' with hb'
  injection hb' with hb'
  subst hb'
  have e : D = D' := hD.trans hD'.symm
  subst e
  rw [← (h3 a ha).1, ← (h3' a ha).1]
theorem Secs.alike {w : World} {b n n' : Nat} {f f' : SF} (h : Secs w b f n) (h' : Secs w b f' n') {x : Int} (hx : InI x) : (f x).isSome = (f' x).isSome := by
  obtain ⟨m, hm, hr⟩ := h
  obtain ⟨m', hm', hr'⟩ := h'
  rw [← (hr x hx).some_iff, ← (hr' x hx).some_iff]
  exact hm.alike hm' hx

end Go.Proofs.YtojlldalhhibmaaGreatDoor

namespace Go.Proofs.YtojlldalhhibmaaGreatDoor
open Go Go.RowKit
set_option linter.unusedVariables false

/-- A disk that the call has made, since w. -/
structure Dp (w W : World) (h : Zn) (D : Dsk) : Prop where
  dk : Dk W h D
  new : ∀ b, h.has b → w.heap.size ≤ b
  below : Below w.heap.size w W
section
variable {w W W' : World} {h h' : Zn} {D D' : Dsk}
theorem Dp.stp (d : Dp w W h D) (s : Stp h W h' W') (k : Dk W' h' D') : Dp w W' h' D' :=
  ⟨k, fun b hb => (s.has b hb).elim (d.new b) (fun h => Nat.le_trans d.below.size h), Turn.below d.below s.turn d.below.size d.new⟩
theorem Dp.mtp (d : Dp w W h D) {g : Nat} (hg : w.heap.size ≤ g) (s : Mtp h g W h' W') (k : Dk W' h' D') : Dp w W' h' D' :=
  ⟨k, fun b hb => (s.has b hb).elim (d.new b) (fun h => Nat.le_trans d.below.size h), Turn.below d.below s.turn d.below.size fun b hb => hb.elim (d.new b) (fun e => by rw [e]; exact hg)⟩
theorem Dp.later (d : Dp w W h D) (hb : Below W.heap.size W W') : Dp w W' h D := ⟨d.dk.later hb, d.new, d.below.trans (hb.mono d.below.size)⟩
theorem Dp.alloc (d : Dp w W h D) (o : Obj) : Dp w (W.alloc o) h D := d.later ((Below.refl _ _).alloc (Nat.le_refl _) o)
/-- Another disk stays. -/
theorem Dk.apart {h2 : Zn} {D2 : Dsk} (d2 : Dk W h2 D2) (d : Dk W h D) (s : Stp h W h' W') (hne : ∀ b, h.has b → ¬ h2.has b) : Dk W' h2 D2 := by
  have key : ∀ b, h2.has b → W'.heap[b]? = W.heap[b]? := fun b hb => s.turn.block b (d2.lt hb) (fun hh => hne b hh hb)
  have hub : ∀ {B : Nat} {v : Value} {l : List UInt8}, Ub W B v l → Ub W' B v l := fun h => s.ub d h
  have hblk : ∀ {g : Nat} {t : TypeId} {cs : Array Value}, Blk W g t cs → t ≠ 69 → t ≠ 106 → Blk W' g t cs := fun h h1 h2 => s.blk d h h1 h2
  have hsec : ∀ {b n : Nat} {f : SF}, Secs W b f n → h2.has b → Secs W' b f n := by
    intro b n f hs hb
    obtain ⟨m, hm, hr⟩ := hs
    exact ⟨m, hm.at (key b hb), fun x hx => (hr x hx).keep fun _ _ h => hub h⟩
  obtain ⟨vs, ho, hp⟩ := d2.pend
  refine ⟨?_, hsec d2.view (.inr (.inl rfl)), hsec d2.ground (.inr (.inr (.inl rfl))), d2.ne, vs, ?_, hp.keep fun v p hv => ?_⟩
  · exact (key _ (.inl rfl)).trans d2.blk
  · refine ⟨ho.1, ?_⟩
    rcases ho.2 with h3 | ⟨g, cap, cur, hv, hB, hh, r⟩
    · exact .inl h3
    · refine .inr ⟨g, cap, cur, hv, hB, ?_, r⟩
      exact (key g (.inr (.inr (.inr (by rw [hv]; rfl))))).trans hh
  · cases p with
    | wr a b =>
      obtain ⟨ga, A, c, h1, h3, h4, h5⟩ := hv
      exact ⟨ga, A, c, h1, hblk h3 (by decide) (by decide), hblk h4 (by decide) (by decide), hub h5⟩
    | fr a =>
      obtain ⟨ga, h1, h3⟩ := hv
      exact ⟨ga, h1, hblk h3 (by decide) (by decide)⟩
end

section
variable {w W W' : World} {h h' : Zn} {D D' : Dsk} {g : Nat} {a : Int} {num : Nat} {last : Int} {body t : List UInt8}
theorem Mr.lastB (m : Mr D a num last body) : 0 ≤ last ∧ last ≤ 1 := by have := m.mi.l01; omega
theorem Mr.at (m : Mr D a num last body) : a ≤ 65534 := by have := m.a1; have := m.ok.size; omega
theorem dcrash_dp {S : Nat → Prop} {v : Value} {l : List (Int × Int)} (d : Dp w W h D) (hok : D.Ok) (hsv : Sv S W v l) (hin : ∀ x ∈ l, InI x.1 ∧ InI x.2) (hll : l.length ≤ 1000000) (hp : D.pend.length ≤ 1000000) {pg : Nat} (hpg : h.g = pg) :
    Calls Tryz.prog 17 #[.pointer (some ⟨pg, 0, none⟩), v] W fun e W' => e = .returned (.tuple #[]) ∧ ∃ h', Dp w W' h' (D.crash l) ∧ h'.g = pg ∧ Stp h W h' W' := by
  subst hpg
  refine (dcrash_any h D S v l W d.dk hok hsv hin hll (by omega)).mono ?_
  rintro e W' ⟨he, h', h1, h2⟩
  exact ⟨he, h', d.stp h2 h1, h2.g, h2⟩
end
end Go.Proofs.YtojlldalhhibmaaGreatDoor

namespace Go.Proofs.YtojlldalhhibmaaGreatDoor
open Go Go.RowKit
set_option linter.unusedVariables false

theorem Stp.lb {h h' : Zn} {w w' : World} {D : Dsk} (s : Stp h w h' w') (d : Dk w h D) {gl hg : Nat} {a : Int} {n size : Nat} {lv sv : Value} {last synced : Nat} (hl : Lb w gl hg a n size lv sv last synced) : Lb w' gl hg a n size lv sv last synced := s.blk d hl (by decide) (by decide)
theorem Mtp.sameL {ks : List (Option TypeId)} {h h' : Zn} {w w' : World} {D : Dsk} {g : Nat} {t : TypeId} {cs : Array Value} (s : Mtp h g w h' w') (d : Dk w h D) (m : Blk w g t cs) (hk : some 69 ∉ ks) (h0 : none ∉ ks) (hp : some 106 ∉ ks) (hm : some t ∉ ks) : SameK ks w w' := fun b t' ht hb =>
  s.turn.block b (kind_lt hb) fun e => by
    rcases e with e | rfl
    · rcases d.kinds e with h3 | h3 | h3
      · exact SameK.not h3 hk hb ht
      · exact SameK.not h3 h0 hb ht
      · exact SameK.not h3 hp hb ht
    · exact SameK.not (kind_blk m) hm hb ht
theorem seg_mul {i size : Nat} (hi : i ≤ 64) (hs : size ≤ 64) : (0 : Int) ≤ (i : Int) * size ∧ (i : Int) * size ≤ 4096 := by
  constructor
  · exact Int.mul_nonneg (by omega) (by omega)
  · have : i * size ≤ 64 * 64 := Nat.mul_le_mul hi hs
    have e : ((i * size : Nat) : Int) = (i : Int) * size := by push_cast; rfl
    omega

set_option maxHeartbeats 4000000 in
set_option maxRecDepth 100000 in
theorem lgfree_any (h : Zn) (D : Dsk) (gl : Nat) (a : Int) (n size i : Nat) (lv sv : Value) (last synced : Nat) (w : World) (hd : Dk w h D) (hok : D.Ok) (hl : Lb w gl h.g a n size lv sv last synced) (hs : size ≤ 64) (hi : i ≤ 64) (h0 : 0 ≤ a) (h1 : a ≤ 65536) (hp : D.pend.length ≤ 900000) :
    Calls Tryz.prog 30 #[.pointer (some ⟨gl, 0, none⟩), .int .i64 (i : Int)] w fun e w' => e = .returned (.tuple #[]) ∧ ∃ h', Dk w' h' (wFree D (a + (i : Int) * size) size) ∧ Stp h w h' w' := by
  have HD := Lib.hid hd
  have HOK := Lib.hid hok
  have HL := Lib.hid hl
  have l3 : w.cell? ⟨gl, 3, none⟩ = some (.int .i64 (size : Int)) := hl.cell 3
  have hmul := seg_mul hi hs
  clear hd hok hl
  go_enter Tryz.func30, Tryz.ntmps30
  go_wp2_with fail
  clear l3
  go_loopw [9] (fun kv wr => ∃ (k : Nat) (h' : Zn), kv = .int .i64 (k : Int) ∧ k ≤ size ∧ Hid (Dk wr h' (wFree D (a + (i : Int) * size) k)) ∧ Hid (Stp h w h' wr)) (fun kv _ => size - (intOf kv).toNat)
  case atStart => exact ⟨0, h, rfl, Nat.zero_le _, HD, Stp.refl _ _⟩
  case round =>
    obtain ⟨k, h', rfl, hk, DK, ST⟩ := hrel
    by_cases hlt : k < size
    · have LR := Lib.hid (ST.out.lb HD.out HL.out)
      have l0 : wr.cell? ⟨gl, 0, none⟩ = some (.pointer (some ⟨h.g, 0, none⟩)) := LR.out.cell 0
      have l1 : wr.cell? ⟨gl, 1, none⟩ = some (.int .i64 a) := LR.out.cell 1
      have l3 : wr.cell? ⟨gl, 3, none⟩ = some (.int .i64 (size : Int)) := LR.out.cell 3
      have hw1 : IntKind.i64.wrap ((i : Int) * size) = (i : Int) * size := i64_in (by omega) (by omega)
      have hw2 : IntKind.i64.wrap (a + (i : Int) * size) = a + (i : Int) * size := i64_in (by omega) (by omega)
      have hw3 : IntKind.i64.wrap (a + (i : Int) * size + k) = a + (i : Int) * size + k := i64_in (by omega) (by omega)
      have hin : Hid (InI (a + (i : Int) * size + k)) := by rw [Hid]; unfold InI; omega
      have hpe := wFree_pend D (a + (i : Int) * size) k
      have HPE : Hid ((wFree D (a + (i : Int) * size) k).pend.length ≤ 1000000000) := by rw [Hid]; omega
      have HOKR := Lib.hid (wFree_ok HOK.out (a + (i : Int) * size) k)
      have HG := Lib.hid ST.out.g
      clear hpe
      go_wp2_with fail
      go_region_held3 (fun w' => w'.cell? ⟨gl, 0, none⟩ = some (.pointer (some ⟨h.g, 0, none⟩)) ∧ w'.cell? ⟨gl, 1, none⟩ = some (.int .i64 a) ∧ w'.cell? ⟨gl, 3, none⟩ = some (.int .i64 (size : Int)))
        (first
          | go_keep
          | exact ⟨LX.cell 0, LX.cell 1, LX.cell 3⟩
          | fail)
        ((first
          | (go_at_call 50; rw [← HG.out]; refine (dfree_any h' _ (a + (i : Int) * size + k) _ (DK.out.later (below_drewN (Below.refl _ _) 1)) HOKR.out hin.out HPE.out).mono ?_; rintro e w4 ⟨rfl, h4, hd4, hs4⟩; rw [HG.out]; have LX := hs4.blk (DK.out.later (below_drewN (Below.refl _ _) 1)) (LR.out.later (below_drewN (Below.refl _ _) 1)) (by decide) (by decide))))
      have D4 := Lib.hid hd4
      have S4 := Lib.hid (ST.out.trans ((Stp.below (below_drewN (Below.refl _ _) 1)).trans hs4))
      clear hd4 hs4 LX l0 l1 l3
      go_wp2_with fail
      go_roundw
      case rel => exact ⟨k + 1, h4, by go_num, by omega, D4, S4⟩
      case measure => simp [intOf]; omega
    · obtain rfl : k = size := by omega
      go_wp2_with fail
      go_end0
      exact ⟨rfl, h', DK.out, ST.out⟩
end Go.Proofs.YtojlldalhhibmaaGreatDoor
