/- What the proof of MetaPlays needs, part 9. -/
import Derived.Test.YtpmndmgfoiagnaaDoorMetaPlaysJ8
import Derived.Deep.RegionHeld3
import Derived.Deep.Cut
import Derived.Deep.DeepCutAuto
import Derived.Deep.RegionWith
import Derived.IntWalk

namespace Go.Proofs.YtpmndmgfoiagnaaDoor
open Go Go.RowKit
set_option linter.unusedVariables false

theorem RDd.put5 {w : World} {v0 : Value} {D : Dsk} (h : RDd w v0 D) {g : Nat} {t : TypeId} {cs : Array Value} (hb : Blk w g t cs) (h1 : t ≠ 109) (h2 : t ≠ 98) (x y z u v : Value) :
    RDd (((((w.setCell ⟨g, 0, none⟩ x).setCell ⟨g, 1, none⟩ y).setCell ⟨g, 2, none⟩ z).setCell ⟨g, 3, none⟩ u).setCell ⟨g, 4, none⟩ v) v0 D := by
  obtain ⟨R, a, b⟩ := h
  exact ⟨R, a.put5 hb h1 h2 x y z u v, b⟩
/-- The state of Steps: the disk, the page, the two results. -/
structure RsSt (w wr : World) (D M Z Y : Array Value) : Prop where
  d : Blk wr w.heap.size 49 D
  m : Blk wr (w.heap.size + 1) 53 M
  r : Blk wr (w.heap.size + 1 + 1) 49 Z
  q : Blk wr (w.heap.size + 1 + 1 + 1) 53 Y
  below : Below w.heap.size w wr
  size : w.heap.size + 1 + 1 + 1 + 1 ≤ wr.heap.size
section
variable {w wr w' : World} {D M Z Y : Array Value}
theorem RsSt.start (w : World) (D M Z Y : Array Value) : RsSt w ((((w.alloc (.cells D 49)).alloc (.cells M 53)).alloc (.cells Z 49)).alloc (.cells Y 53)) D M Z Y := by
  have e1 : (w.alloc (.cells D 49)).heap.size = w.heap.size + 1 := by simp
  have e2 : ((w.alloc (.cells D 49)).alloc (.cells M 53)).heap.size = w.heap.size + 1 + 1 := by simp
  have e3 : (((w.alloc (.cells D 49)).alloc (.cells M 53)).alloc (.cells Z 49)).heap.size = w.heap.size + 1 + 1 + 1 := by simp
  refine ⟨(((Blk.new _ _ _).alloc _).alloc _).alloc _, ?_, ?_, ?_, ((((Below.refl _ _).alloc (Nat.le_refl _) _).alloc (by simp) _).alloc (by simp; omega) _).alloc (by simp; omega) _, by simp⟩
  · have := ((Blk.new (w.alloc (.cells D 49)) 53 M).alloc (.cells Z 49)).alloc (.cells Y 53)
    rwa [e1] at this
  · have := (Blk.new ((w.alloc (.cells D 49)).alloc (.cells M 53)) 49 Z).alloc (.cells Y 53)
    rwa [e2] at this
  · have := Blk.new (((w.alloc (.cells D 49)).alloc (.cells M 53)).alloc (.cells Z 49)) 53 Y
    rwa [e3] at this
theorem RsSt.to (s : RsSt w wr D M Z Y) (hb : Below wr.heap.size wr w') : RsSt w w' D M Z Y :=
  ⟨s.d.later hb, s.m.later hb, s.r.later hb, s.q.later hb, s.below.trans (hb.mono s.below.size), Nat.le_trans s.size hb.size⟩
theorem Blk.far5 {w : World} {g g' : Nat} {t : TypeId} {cs : Array Value} (h : Blk w g' t cs) (hne : g' ≠ g) (x y z u v : Value) :
    Blk (((((w.setCell ⟨g, 0, none⟩ x).setCell ⟨g, 1, none⟩ y).setCell ⟨g, 2, none⟩ z).setCell ⟨g, 3, none⟩ u).setCell ⟨g, 4, none⟩ v) g' t cs :=
  ((((h.far (p := ⟨g, 0, none⟩) hne x).far (p := ⟨g, 1, none⟩) hne y).far (p := ⟨g, 2, none⟩) hne z).far (p := ⟨g, 3, none⟩) hne u).far (p := ⟨g, 4, none⟩) hne v
theorem Blk.far3 {w : World} {g g' : Nat} {t : TypeId} {cs : Array Value} (h : Blk w g' t cs) (hne : g' ≠ g) (x y z : Value) :
    Blk (((w.setCell ⟨g, 0, none⟩ x).setCell ⟨g, 1, none⟩ y).setCell ⟨g, 2, none⟩ z) g' t cs :=
  ((h.far (p := ⟨g, 0, none⟩) hne x).far (p := ⟨g, 1, none⟩) hne y).far (p := ⟨g, 2, none⟩) hne z
theorem RsSt.put {d0 d1 d2 d3 d4 : Value} (s : RsSt w wr #[d0, d1, d2, d3, d4] M Z Y) (x y z u v : Value) :
    RsSt w (((((wr.setCell ⟨w.heap.size, 0, none⟩ x).setCell ⟨w.heap.size, 1, none⟩ y).setCell ⟨w.heap.size, 2, none⟩ z).setCell ⟨w.heap.size, 3, none⟩ u).setCell ⟨w.heap.size, 4, none⟩ v) #[x, y, z, u, v] M Z Y :=
  ⟨s.d.put5 x y z u v, s.m.far5 (by omega) _ _ _ _ _, s.r.far5 (by omega) _ _ _ _ _, s.q.far5 (by omega) _ _ _ _ _, below_put5 s.below (Nat.le_refl _) _ _ _ _ _, by simpa using s.size⟩
/-- The results are laid. -/
theorem RsSt.ret {z0 z1 z2 z3 z4 y0 y1 y2 : Value} (s : RsSt w wr D M #[z0, z1, z2, z3, z4] #[y0, y1, y2]) {x y z u v p1 p2 p3 : Value} {D' : Dsk} (hr : RDd wr (.agg #[x, y, z, u, v]) D') :
    let w5 := ((((wr.setCell ⟨w.heap.size + 1 + 1, 0, none⟩ x).setCell ⟨w.heap.size + 1 + 1, 1, none⟩ y).setCell ⟨w.heap.size + 1 + 1, 2, none⟩ z).setCell ⟨w.heap.size + 1 + 1, 3, none⟩ u).setCell ⟨w.heap.size + 1 + 1, 4, none⟩ v
    let w9 := ((w5.setCell ⟨w.heap.size + 1 + 1 + 1, 0, none⟩ p1).setCell ⟨w.heap.size + 1 + 1 + 1, 1, none⟩ p2).setCell ⟨w.heap.size + 1 + 1 + 1, 2, none⟩ p3
    Blk w9 (w.heap.size + 1 + 1) 49 #[x, y, z, u, v] ∧ Blk w9 (w.heap.size + 1 + 1 + 1) 53 #[p1, p2, p3] ∧ RDd w9 (.agg #[x, y, z, u, v]) D' ∧ Below w.heap.size w w9 := by
  intro w5 w9
  have b5 : Blk w5 _ _ _ := s.r.put5 x y z u v
  have q5 : Blk w5 _ _ _ := s.q.far5 (g := w.heap.size + 1 + 1) (by omega) x y z u v
  have r5 : RDd w5 _ _ := hr.put5 s.r (by decide) (by decide) x y z u v
  have k5 := kind_blk q5
  have q6 := q5.put 0 p1
  have q7 := q6.put 1 p2
  refine ⟨b5.far3 (by omega) _ _ _, q5.puts3 _ _ _, ?_, below_puts3 (below_put5 s.below (by omega) _ _ _ _ _) (by omega) _ _ _⟩
  exact ((r5.setCell (p := ⟨w.heap.size + 1 + 1 + 1, 0, none⟩) (by rw [k5]; decide) (by rw [k5]; decide) p1).setCell (p := ⟨w.heap.size + 1 + 1 + 1, 1, none⟩) (by rw [kind_blk q6]; decide) (by rw [kind_blk q6]; decide) p2).setCell (p := ⟨w.heap.size + 1 + 1 + 1, 2, none⟩) (by rw [kind_blk q7]; decide) (by rw [kind_blk q7]; decide) p3
end
/-- What Steps answers: rl: the document's Last. -/
def RsPost (D : Dsk) (a : Int) (num : Nat) (last rl : Int) (body : List UInt8) (k : Int) (w : World) (e : Ending) (w' : World) : Prop :=
  ∃ v, e = .returned (.tuple #[v, .agg #[.int .i64 a, .int .i64 (if (mtSteps D a num last body k).done then (mtSteps D a num last body k).last else rl), .int .u64 ((mtSteps D a num last body k).num : Int)], .bool (mtSteps D a num last body k).done, .int .i64 ((mtSteps D a num last body k).err : Nat)]) ∧
    RDd w' v (mtSteps D a num last body k).D ∧ Below w.heap.size w w'
theorem rs_fin {D : Dsk} {a : Int} {num : Nat} {last rl : Int} {body : List UInt8} {k : Int} {w w' : World} {s : MtSt} {v : Value} {ok : Bool} {ev rv nv : Int} (hs : mtSteps D a num last body k = s) (hd : RDd w' v s.D) (hb : Below w.heap.size w w') (hr : rv = if s.done then s.last else rl) (hn : nv = (s.num : Int)) (ho : ok = s.done) (he : ev = (s.err : Nat)) :
    RsPost D a num last rl body k w (.returned (.tuple #[v, .agg #[.int .i64 a, .int .i64 rv, .int .u64 nv], .bool ok, .int .i64 ev])) w' := by
  subst hs hr hn ho he
  exact ⟨v, rfl, hd, hb⟩
section
variable {P : Program} {fn : Func}
theorem results_cells22 {p q u v : Tmp} {ty ty' : TypeId} (h : fn.results = #[.cell p ty, .cell q ty', .tmp u, .tmp v]) (tmps : Array Value) (w : World) (g g' : Nat) {t t' : TypeId} {cs cs' : Array Value}
    (hp : tmps.getD p undef = .pointer (some ⟨g, 0, none⟩)) (hq : tmps.getD q undef = .pointer (some ⟨g', 0, none⟩)) (hg : Blk w g t cs) (hg' : Blk w g' t' cs') (hS : StructTy P ty cs.size) (hS' : StructTy P ty' cs'.size) :
    (results fn tmps).run P w = .ok (.tuple #[.agg cs, .agg cs', tmps.getD u undef, tmps.getD v undef]) w := by
  have hp' : tmps[p]?.getD undef = .pointer (some ⟨g, 0, none⟩) := by simpa using hp
  have hq' : tmps[q]?.getD undef = .pointer (some ⟨g', 0, none⟩) := by simpa using hq
  simp [results, h, hp', hq', asAddr, loadVar_blk hg hS, loadVar_blk hg' hS']
end

theorem rs_end {w W : World} {act : Act} {Da M : Array Value} {z0 z1 z2 z3 z4 y0 y1 y2 x y z u v : Value} {D D' : Dsk} {a : Int} {num : Nat} {last rl : Int} {body : List UInt8} {k : Int} (s : RsSt w W Da M #[z0, z1, z2, z3, z4] #[y0, y1, y2]) (hr : RDd W (.agg #[x, y, z, u, v]) D')
    {S : MtSt} (hs : mtSteps D a num last body k = S) (hD : D' = S.D) {rv nv ev : Int} {ok : Bool} (hrv : rv = if S.done then S.last else rl) (hnv : nv = (S.num : Int)) (hok : ok = S.done) (hev : ev = (S.err : Nat))
    (h8 : act.tmps.getD 8 undef = .pointer (some ⟨w.heap.size + 1 + 1, 0, none⟩)) (h9 : act.tmps.getD 9 undef = .pointer (some ⟨w.heap.size + 1 + 1 + 1, 0, none⟩)) (h10 : act.tmps.getD 10 undef = .bool ok) (h11 : act.tmps.getD 11 undef = .int .i64 ev) (hdf : act.defers = []) :
    bodyPost Tryd.prog Tryd.f19 (RsPost D a num last rl body k w) Exit.ret act ((((((((W.setCell ⟨w.heap.size + 1 + 1, 0, none⟩ x).setCell ⟨w.heap.size + 1 + 1, 1, none⟩ y).setCell ⟨w.heap.size + 1 + 1, 2, none⟩ z).setCell ⟨w.heap.size + 1 + 1, 3, none⟩ u).setCell ⟨w.heap.size + 1 + 1, 4, none⟩ v).setCell ⟨w.heap.size + 1 + 1 + 1, 0, none⟩ (.int .i64 a)).setCell ⟨w.heap.size + 1 + 1 + 1, 1, none⟩ (.int .i64 rv)).setCell ⟨w.heap.size + 1 + 1 + 1, 2, none⟩ (.int .u64 nv)).drew := by
  have HF := s.ret (p1 := .int .i64 a) (p2 := .int .i64 rv) (p3 := .int .u64 nv) hr
  simp only at HF
  refine bodyPost_ret (results_cells22 rfl _ _ (w.heap.size + 1 + 1) (w.heap.size + 1 + 1 + 1) h8 h9 HF.1.drew HF.2.1.drew rdiskTy rmetaTy) hdf ?_
  rw [h10, h11]
  subst hD
  exact rs_fin hs (HF.2.2.1.later (below_drewN (Below.refl _ _) 1)) HF.2.2.2.drew hrv hnv hok hev
theorem cell_far {w : World} {p : Addr} {v0 : Value} (h : w.cell? p = some v0) {g i : Nat} (hne : g ≠ p.block) (x : Value) : (w.setCell ⟨g, i, none⟩ x).cell? p = some v0 := by
  rw [World.cell?_setCell_other w ⟨g, i, none⟩ p x (fun e => hne (by subst e; rfl))]
  exact h
theorem cell_far5 {w : World} {p : Addr} {v0 : Value} (h : w.cell? p = some v0) {g : Nat} (hne : g ≠ p.block) (x y z u v : Value) :
    (((((w.setCell ⟨g, 0, none⟩ x).setCell ⟨g, 1, none⟩ y).setCell ⟨g, 2, none⟩ z).setCell ⟨g, 3, none⟩ u).setCell ⟨g, 4, none⟩ v).cell? p = some v0 :=
  cell_far (cell_far (cell_far (cell_far (cell_far h hne x) hne y) hne z) hne u) hne v
theorem cell_far3 {w : World} {p : Addr} {v0 : Value} (h : w.cell? p = some v0) {g : Nat} (hne : g ≠ p.block) (x y z : Value) :
    (((w.setCell ⟨g, 0, none⟩ x).setCell ⟨g, 1, none⟩ y).setCell ⟨g, 2, none⟩ z).cell? p = some v0 :=
  cell_far (cell_far (cell_far h hne x) hne y) hne z
theorem rs_same {w W wg : World} {D M Z Y : Array Value} (s : RsSt w W D M Z Y) (hwg : Kept (ptE [⟨9, w.heap.size + 1 + 1, 49, 0, 5⟩, ⟨10, w.heap.size + 1 + 1 + 1, 53, 0, 3⟩]) W wg) : SameK rdKs W wg :=
  SameK.kept hwg fun b k h => by
    obtain ⟨p, hp, h1, _⟩ := h
    simp only [List.mem_cons, List.not_mem_nil, or_false] at hp
    rcases hp with rfl | rfl <;> simp only at h1 <;> subst h1
    · exact ⟨_, kind_blk s.r, by decide⟩
    · exact ⟨_, kind_blk s.q, by decide⟩
theorem rs_below {w W wg : World} {D M Z Y : Array Value} {t1 t2 : TypeId} (s : RsSt w W D M Z Y) (hwg : Kept (ptE [⟨9, w.heap.size + 1 + 1, t1, 0, 5⟩, ⟨10, w.heap.size + 1 + 1 + 1, t2, 0, 3⟩]) W wg) : Below w.heap.size w wg :=
  s.below.trans (hwg.below s.below.size fun b k h => by
    obtain ⟨p, hp, h1, _⟩ := h
    simp only [List.mem_cons, List.not_mem_nil, or_false] at hp
    rcases hp with rfl | rfl <;> simp only at h1 <;> omega)
theorem rs_facts {w W wg : World} {t1 t2 : TypeId} {v0 v1 v2 v3 v4 u0 u2 : Value} (hwg : Kept (ptE [⟨9, w.heap.size + 1 + 1, t1, 0, 5⟩, ⟨10, w.heap.size + 1 + 1 + 1, t2, 0, 3⟩]) W wg)
    (d0 : W.cell? ⟨w.heap.size, 0, none⟩ = some v0) (d1 : W.cell? ⟨w.heap.size, 1, none⟩ = some v1) (d2 : W.cell? ⟨w.heap.size, 2, none⟩ = some v2) (d3 : W.cell? ⟨w.heap.size, 3, none⟩ = some v3) (d4 : W.cell? ⟨w.heap.size, 4, none⟩ = some v4) (m0 : W.cell? ⟨w.heap.size + 1, 0, none⟩ = some u0) (m2 : W.cell? ⟨w.heap.size + 1, 2, none⟩ = some u2) :
    wg.cell? ⟨w.heap.size, 0, none⟩ = some v0 ∧ wg.cell? ⟨w.heap.size, 1, none⟩ = some v1 ∧ wg.cell? ⟨w.heap.size, 2, none⟩ = some v2 ∧ wg.cell? ⟨w.heap.size, 3, none⟩ = some v3 ∧ wg.cell? ⟨w.heap.size, 4, none⟩ = some v4 ∧ wg.cell? ⟨w.heap.size + 1, 0, none⟩ = some u0 ∧ wg.cell? ⟨w.heap.size + 1, 2, none⟩ = some u2 := by
  have h0 : ∀ b k, b < w.heap.size + 1 + 1 → ¬ ptE [⟨9, w.heap.size + 1 + 1, t1, 0, 5⟩, ⟨10, w.heap.size + 1 + 1 + 1, t2, 0, 3⟩] b k := fun b k hb => by
    rintro ⟨p, hp, h1, _⟩
    simp only [List.mem_cons, List.not_mem_nil, or_false] at hp
    rcases hp with rfl | rfl <;> simp only at h1 <;> omega
  exact ⟨hwg.cell d0 (h0 _ _ (by omega)), hwg.cell d1 (h0 _ _ (by omega)), hwg.cell d2 (h0 _ _ (by omega)), hwg.cell d3 (h0 _ _ (by omega)), hwg.cell d4 (h0 _ _ (by omega)), hwg.cell m0 (h0 _ _ (by omega)), hwg.cell m2 (h0 _ _ (by omega))⟩
theorem rs_end2 {w wf : World} {act : Act} {cs : Array Value} {D D' : Dsk} {a : Int} {num : Nat} {last rl : Int} {body : List UInt8} {k : Int} {rv nv ev : Int} {ok : Bool} (b9 : Blk wf (w.heap.size + 1 + 1) 49 cs) (b10 : Blk wf (w.heap.size + 1 + 1 + 1) 53 #[.int .i64 a, .int .i64 rv, .int .u64 nv])
    (hr : RDd wf (.agg cs) D') (hb : Below w.heap.size w wf) {S : MtSt} (hs : mtSteps D a num last body k = S) (hD : D' = S.D) (hrv : rv = if S.done then S.last else rl) (hnv : nv = (S.num : Int)) (hok : ok = S.done) (hev : ev = (S.err : Nat))
    (h8 : act.tmps.getD 8 undef = .pointer (some ⟨w.heap.size + 1 + 1, 0, none⟩)) (h9 : act.tmps.getD 9 undef = .pointer (some ⟨w.heap.size + 1 + 1 + 1, 0, none⟩)) (h10 : act.tmps.getD 10 undef = .bool ok) (h11 : act.tmps.getD 11 undef = .int .i64 ev) (hdf : act.defers = []) :
    bodyPost Tryd.prog Tryd.f19 (RsPost D a num last rl body k w) Exit.ret act wf := by
  obtain ⟨A1, c1, A2, c2, A3, c3, h5⟩ := hr.shape
  injection h5 with h5
  subst h5
  refine bodyPost_ret (results_cells22 rfl _ _ (w.heap.size + 1 + 1) (w.heap.size + 1 + 1 + 1) h8 h9 b9 b10 rdiskTy rmetaTy) hdf ?_
  rw [h10, h11]
  subst hD
  exact rs_fin hs hr hb hrv hnv hok hev
theorem RsSt.next {w W W' : World} {d0 d1 d2 d3 d4 : Value} {M Z Y : Array Value} (s : RsSt w W #[d0, d1, d2, d3, d4] M Z Y) (hb : Below W.heap.size W W') {D' : Dsk} {x y z u v : Value} (hr : RDd W' (.agg #[x, y, z, u, v]) D') :
    let W5 := ((((W'.setCell ⟨w.heap.size, 0, none⟩ x).setCell ⟨w.heap.size, 1, none⟩ y).setCell ⟨w.heap.size, 2, none⟩ z).setCell ⟨w.heap.size, 3, none⟩ u).setCell ⟨w.heap.size, 4, none⟩ v
    RsSt w W5 #[x, y, z, u, v] M Z Y ∧ RDd W5 (.agg #[x, y, z, u, v]) D' := by
  intro W5
  have s1 := s.to hb
  exact ⟨s1.put x y z u v, hr.put5 s1.d (by decide) (by decide) x y z u v⟩

set_option maxHeartbeats 40000000 in
set_option maxRecDepth 100000 in
theorem rsteps_any (v : Value) (D : Dsk) (a : Int) (num : Nat) (last rl : Int) (body : List UInt8) (k : Int) (w : World) (hr : RDd w v D) (hok : D.Ok) (hlen : D.pend.length ≤ 900000) (h0 : 0 ≤ a) (h1 : a ≤ 65534) (hl0 : 0 ≤ last) (hl1 : last ≤ 1)
    (hrl : 1 - last = if rl = 0 then 1 else 0) (hnum : num < U64) :
    Calls Tryd.prog 19 #[v, .agg #[.int .i64 a, .int .i64 rl, .int .u64 (num : Int)], .string (st body), .int .i64 k] w (RsPost D a num last rl body k w) := by
  have HR := Lib.hid hr
  have HOK := Lib.hid hok
  have HNU := Lib.hid hnum
  have HRL := Lib.hid hrl
  obtain ⟨A1, c1, A2, c2, A3, c3, rfl⟩ := hr.shape
  have S0 := Lib.hid (RsSt.start w #[.int .i64 D.size, .int .i64 D.limit, .slice A1 D.nv c1, .slice A2 D.ng c2, .slice A3 D.pend.length c3] #[.int .i64 a, .int .i64 rl, .int .u64 (num : Int)] #[.int .i64 0, .int .i64 0, .slice none 0 0, .slice none 0 0, .slice none 0 0] #[.int .i64 0, .int .i64 0, .int .u64 0])
  have HR0 := Lib.hid (HR.out.later S0.out.below)
  clear hr hok hnum hrl
  by_cases hlong : 480 < body.length
  · have HL := Lib.hid hlong
    go_enter Tryd.func19, Tryd.ntmps19
    go_wp2_with fail
    generalize hW0 : (((w.alloc _).alloc _).alloc _).alloc _ = W0 at *
    have d0 : (W0).cell? ⟨w.heap.size, 0, none⟩ = some (.int .i64 D.size) := S0.out.d.cell 0
    have d1 : (W0).cell? ⟨w.heap.size, 1, none⟩ = some (.int .i64 D.limit) := S0.out.d.cell 1
    have d2 : (W0).cell? ⟨w.heap.size, 2, none⟩ = some (.slice A1 D.nv c1) := S0.out.d.cell 2
    have d3 : (W0).cell? ⟨w.heap.size, 3, none⟩ = some (.slice A2 D.ng c2) := S0.out.d.cell 3
    have d4 : (W0).cell? ⟨w.heap.size, 4, none⟩ = some (.slice A3 D.pend.length c3) := S0.out.d.cell 4
    have df0 : (W0).frozen? ⟨w.heap.size, 0, none⟩ = false := S0.out.d.free 0
    have df1 : (W0).frozen? ⟨w.heap.size, 1, none⟩ = false := S0.out.d.free 1
    have df2 : (W0).frozen? ⟨w.heap.size, 2, none⟩ = false := S0.out.d.free 2
    have df3 : (W0).frozen? ⟨w.heap.size, 3, none⟩ = false := S0.out.d.free 3
    have df4 : (W0).frozen? ⟨w.heap.size, 4, none⟩ = false := S0.out.d.free 4
    have m0 : (W0).cell? ⟨w.heap.size + 1, 0, none⟩ = some (.int .i64 a) := S0.out.m.cell 0
    have m1 : (W0).cell? ⟨w.heap.size + 1, 1, none⟩ = some (.int .i64 rl) := S0.out.m.cell 1
    have m2 : (W0).cell? ⟨w.heap.size + 1, 2, none⟩ = some (.int .u64 (num : Int)) := S0.out.m.cell 2
    have mf0 : (W0).frozen? ⟨w.heap.size + 1, 0, none⟩ = false := S0.out.m.free 0
    have mf1 : (W0).frozen? ⟨w.heap.size + 1, 1, none⟩ = false := S0.out.m.free 1
    have mf2 : (W0).frozen? ⟨w.heap.size + 1, 2, none⟩ = false := S0.out.m.free 2
    have z0 : (W0).cell? ⟨w.heap.size + 1 + 1, 0, none⟩ = some (.int .i64 0) := S0.out.r.cell 0
    have z1 : (W0).cell? ⟨w.heap.size + 1 + 1, 1, none⟩ = some (.int .i64 0) := S0.out.r.cell 1
    have z2 : (W0).cell? ⟨w.heap.size + 1 + 1, 2, none⟩ = some (.slice none 0 0) := S0.out.r.cell 2
    have z3 : (W0).cell? ⟨w.heap.size + 1 + 1, 3, none⟩ = some (.slice none 0 0) := S0.out.r.cell 3
    have z4 : (W0).cell? ⟨w.heap.size + 1 + 1, 4, none⟩ = some (.slice none 0 0) := S0.out.r.cell 4
    have zf0 : (W0).frozen? ⟨w.heap.size + 1 + 1, 0, none⟩ = false := S0.out.r.free 0
    have zf1 : (W0).frozen? ⟨w.heap.size + 1 + 1, 1, none⟩ = false := S0.out.r.free 1
    have zf2 : (W0).frozen? ⟨w.heap.size + 1 + 1, 2, none⟩ = false := S0.out.r.free 2
    have zf3 : (W0).frozen? ⟨w.heap.size + 1 + 1, 3, none⟩ = false := S0.out.r.free 3
    have zf4 : (W0).frozen? ⟨w.heap.size + 1 + 1, 4, none⟩ = false := S0.out.r.free 4
    have y0 : (W0).cell? ⟨w.heap.size + 1 + 1 + 1, 0, none⟩ = some (.int .i64 0) := S0.out.q.cell 0
    have y1 : (W0).cell? ⟨w.heap.size + 1 + 1 + 1, 1, none⟩ = some (.int .i64 0) := S0.out.q.cell 1
    have y2 : (W0).cell? ⟨w.heap.size + 1 + 1 + 1, 2, none⟩ = some (.int .u64 0) := S0.out.q.cell 2
    have yf0 : (W0).frozen? ⟨w.heap.size + 1 + 1 + 1, 0, none⟩ = false := S0.out.q.free 0
    have yf1 : (W0).frozen? ⟨w.heap.size + 1 + 1 + 1, 1, none⟩ = false := S0.out.q.free 1
    have yf2 : (W0).frozen? ⟨w.heap.size + 1 + 1 + 1, 2, none⟩ = false := S0.out.q.free 2
    go_region
    go_wp2_with fail
    exact rs_end S0.out HR0.out (mtSteps_long HL.out) rfl rfl rfl rfl rfl rfl rfl rfl rfl rfl
  · have hwr : IntKind.u64.wrap ((num : Int) + 1) = (((num + 1) % U64 : Nat) : Int) := by
      rw [IntKind.wrap_u64]; unfold U64; omega
    go_enter Tryd.func19, Tryd.ntmps19
    go_upto_if 24 with fail
    generalize hW0 : (((w.alloc _).alloc _).alloc _).alloc _ = W0 at *
    clear hW0
    have d0 : (W0).cell? ⟨w.heap.size, 0, none⟩ = some (.int .i64 D.size) := S0.out.d.cell 0
    have d1 : (W0).cell? ⟨w.heap.size, 1, none⟩ = some (.int .i64 D.limit) := S0.out.d.cell 1
    have d2 : (W0).cell? ⟨w.heap.size, 2, none⟩ = some (.slice A1 D.nv c1) := S0.out.d.cell 2
    have d3 : (W0).cell? ⟨w.heap.size, 3, none⟩ = some (.slice A2 D.ng c2) := S0.out.d.cell 3
    have d4 : (W0).cell? ⟨w.heap.size, 4, none⟩ = some (.slice A3 D.pend.length c3) := S0.out.d.cell 4
    have df0 : (W0).frozen? ⟨w.heap.size, 0, none⟩ = false := S0.out.d.free 0
    have df1 : (W0).frozen? ⟨w.heap.size, 1, none⟩ = false := S0.out.d.free 1
    have df2 : (W0).frozen? ⟨w.heap.size, 2, none⟩ = false := S0.out.d.free 2
    have df3 : (W0).frozen? ⟨w.heap.size, 3, none⟩ = false := S0.out.d.free 3
    have df4 : (W0).frozen? ⟨w.heap.size, 4, none⟩ = false := S0.out.d.free 4
    have m0 : (W0).cell? ⟨w.heap.size + 1, 0, none⟩ = some (.int .i64 a) := S0.out.m.cell 0
    have m1 : (W0).cell? ⟨w.heap.size + 1, 1, none⟩ = some (.int .i64 rl) := S0.out.m.cell 1
    have m2 : (W0).cell? ⟨w.heap.size + 1, 2, none⟩ = some (.int .u64 (num : Int)) := S0.out.m.cell 2
    have mf0 : (W0).frozen? ⟨w.heap.size + 1, 0, none⟩ = false := S0.out.m.free 0
    have mf1 : (W0).frozen? ⟨w.heap.size + 1, 1, none⟩ = false := S0.out.m.free 1
    have mf2 : (W0).frozen? ⟨w.heap.size + 1, 2, none⟩ = false := S0.out.m.free 2
    have z0 : (W0).cell? ⟨w.heap.size + 1 + 1, 0, none⟩ = some (.int .i64 0) := S0.out.r.cell 0
    have z1 : (W0).cell? ⟨w.heap.size + 1 + 1, 1, none⟩ = some (.int .i64 0) := S0.out.r.cell 1
    have z2 : (W0).cell? ⟨w.heap.size + 1 + 1, 2, none⟩ = some (.slice none 0 0) := S0.out.r.cell 2
    have z3 : (W0).cell? ⟨w.heap.size + 1 + 1, 3, none⟩ = some (.slice none 0 0) := S0.out.r.cell 3
    have z4 : (W0).cell? ⟨w.heap.size + 1 + 1, 4, none⟩ = some (.slice none 0 0) := S0.out.r.cell 4
    have zf0 : (W0).frozen? ⟨w.heap.size + 1 + 1, 0, none⟩ = false := S0.out.r.free 0
    have zf1 : (W0).frozen? ⟨w.heap.size + 1 + 1, 1, none⟩ = false := S0.out.r.free 1
    have zf2 : (W0).frozen? ⟨w.heap.size + 1 + 1, 2, none⟩ = false := S0.out.r.free 2
    have zf3 : (W0).frozen? ⟨w.heap.size + 1 + 1, 3, none⟩ = false := S0.out.r.free 3
    have zf4 : (W0).frozen? ⟨w.heap.size + 1 + 1, 4, none⟩ = false := S0.out.r.free 4
    have y0 : (W0).cell? ⟨w.heap.size + 1 + 1 + 1, 0, none⟩ = some (.int .i64 0) := S0.out.q.cell 0
    have y1 : (W0).cell? ⟨w.heap.size + 1 + 1 + 1, 1, none⟩ = some (.int .i64 0) := S0.out.q.cell 1
    have y2 : (W0).cell? ⟨w.heap.size + 1 + 1 + 1, 2, none⟩ = some (.int .u64 0) := S0.out.q.cell 2
    have yf0 : (W0).frozen? ⟨w.heap.size + 1 + 1 + 1, 0, none⟩ = false := S0.out.q.free 0
    have yf1 : (W0).frozen? ⟨w.heap.size + 1 + 1 + 1, 1, none⟩ = false := S0.out.q.free 1
    have yf2 : (W0).frozen? ⟨w.heap.size + 1 + 1 + 1, 2, none⟩ = false := S0.out.q.free 2
    go_cut [12] (fun s12 wx => s12 = .int .i64 (1 - last) ∧ W0 = wx)
    case first =>
      by_cases hz : rl = 0
      · have hzz : 1 - last = 1 := by have := HRL.out; rw [if_pos hz] at this; exact this
        go_wp2_with fail
        go_meet
        exact ⟨by rw [hzz], rfl⟩
      · have hzz : 1 - last = 0 := by have := HRL.out; rw [if_neg hz] at this; exact this
        go_wp2_with fail
        go_meet
        exact ⟨by rw [hzz], rfl⟩
    obtain ⟨rfl, rfl⟩ := hcut
    have hx0 : 0 ≤ a + (1 - last) := by omega
    have hx1 : a + (1 - last) ≤ 65535 := by omega
    by_cases hk1 : k < 1
    · go_wp2_with fail
      go_region
      go_wp2_with fail
      exact rs_end S0.out HR0.out (mtSteps_stop (i := 0) hlong (by omega) (by omega) (.inl rfl) (fun h => absurd h (by omega))) rfl rfl rfl rfl rfl rfl rfl rfl rfl rfl
    go_wp2_with fail
    refine (rdfree_any _ D (a + (1 - last)) W0 HR0.out HOK.out (by omega)).mono ?_
    rintro e w1 ⟨v1, rfl, hr1, hb1⟩
    have hfp := free_pend D (a + (1 - last))
    obtain ⟨D1, hD1⟩ : ∃ D1, D.free (a + (1 - last)) = D1 := ⟨_, rfl⟩
    have OK1 : Hid D1.Ok := by rw [Hid, ← hD1]; exact HOK.out.free _
    have HD1 := Lib.hid hD1
    rw [hD1] at hr1 hfp
    clear hD1
    obtain ⟨B1, e1, B2, e2, B3, e3, rfl⟩ := hr1.shape
    have S1 := Lib.hid (S0.out.to hb1)
    have N1 := S0.out.next hb1 hr1
    simp only at N1
    have T1 := Lib.hid N1.1
    have R1 := Lib.hid N1.2
    clear N1 hr1 hb1
    clear d0 d1 d2 d3 d4 df0 df1 df2 df3 df4 m0 m1 m2 mf0 mf1 mf2 z0 z1 z2 z3 z4 zf0 zf1 zf2 zf3 zf4 y0 y1 y2 yf0 yf1 yf2
    have d0 : (w1).cell? ⟨w.heap.size, 0, none⟩ = some (.int .i64 D.size) := S1.out.d.cell 0
    have d1 : (w1).cell? ⟨w.heap.size, 1, none⟩ = some (.int .i64 D.limit) := S1.out.d.cell 1
    have d2 : (w1).cell? ⟨w.heap.size, 2, none⟩ = some (.slice A1 D.nv c1) := S1.out.d.cell 2
    have d3 : (w1).cell? ⟨w.heap.size, 3, none⟩ = some (.slice A2 D.ng c2) := S1.out.d.cell 3
    have d4 : (w1).cell? ⟨w.heap.size, 4, none⟩ = some (.slice A3 D.pend.length c3) := S1.out.d.cell 4
    have df0 : (w1).frozen? ⟨w.heap.size, 0, none⟩ = false := S1.out.d.free 0
    have df1 : (w1).frozen? ⟨w.heap.size, 1, none⟩ = false := S1.out.d.free 1
    have df2 : (w1).frozen? ⟨w.heap.size, 2, none⟩ = false := S1.out.d.free 2
    have df3 : (w1).frozen? ⟨w.heap.size, 3, none⟩ = false := S1.out.d.free 3
    have df4 : (w1).frozen? ⟨w.heap.size, 4, none⟩ = false := S1.out.d.free 4
    have m0 : (w1).cell? ⟨w.heap.size + 1, 0, none⟩ = some (.int .i64 a) := S1.out.m.cell 0
    have m1 : (w1).cell? ⟨w.heap.size + 1, 1, none⟩ = some (.int .i64 rl) := S1.out.m.cell 1
    have m2 : (w1).cell? ⟨w.heap.size + 1, 2, none⟩ = some (.int .u64 (num : Int)) := S1.out.m.cell 2
    have mf0 : (w1).frozen? ⟨w.heap.size + 1, 0, none⟩ = false := S1.out.m.free 0
    have mf1 : (w1).frozen? ⟨w.heap.size + 1, 1, none⟩ = false := S1.out.m.free 1
    have mf2 : (w1).frozen? ⟨w.heap.size + 1, 2, none⟩ = false := S1.out.m.free 2
    have z0 : (w1).cell? ⟨w.heap.size + 1 + 1, 0, none⟩ = some (.int .i64 0) := S1.out.r.cell 0
    have z1 : (w1).cell? ⟨w.heap.size + 1 + 1, 1, none⟩ = some (.int .i64 0) := S1.out.r.cell 1
    have z2 : (w1).cell? ⟨w.heap.size + 1 + 1, 2, none⟩ = some (.slice none 0 0) := S1.out.r.cell 2
    have z3 : (w1).cell? ⟨w.heap.size + 1 + 1, 3, none⟩ = some (.slice none 0 0) := S1.out.r.cell 3
    have z4 : (w1).cell? ⟨w.heap.size + 1 + 1, 4, none⟩ = some (.slice none 0 0) := S1.out.r.cell 4
    have zf0 : (w1).frozen? ⟨w.heap.size + 1 + 1, 0, none⟩ = false := S1.out.r.free 0
    have zf1 : (w1).frozen? ⟨w.heap.size + 1 + 1, 1, none⟩ = false := S1.out.r.free 1
    have zf2 : (w1).frozen? ⟨w.heap.size + 1 + 1, 2, none⟩ = false := S1.out.r.free 2
    have zf3 : (w1).frozen? ⟨w.heap.size + 1 + 1, 3, none⟩ = false := S1.out.r.free 3
    have zf4 : (w1).frozen? ⟨w.heap.size + 1 + 1, 4, none⟩ = false := S1.out.r.free 4
    have y0 : (w1).cell? ⟨w.heap.size + 1 + 1 + 1, 0, none⟩ = some (.int .i64 0) := S1.out.q.cell 0
    have y1 : (w1).cell? ⟨w.heap.size + 1 + 1 + 1, 1, none⟩ = some (.int .i64 0) := S1.out.q.cell 1
    have y2 : (w1).cell? ⟨w.heap.size + 1 + 1 + 1, 2, none⟩ = some (.int .u64 0) := S1.out.q.cell 2
    have yf0 : (w1).frozen? ⟨w.heap.size + 1 + 1 + 1, 0, none⟩ = false := S1.out.q.free 0
    have yf1 : (w1).frozen? ⟨w.heap.size + 1 + 1 + 1, 1, none⟩ = false := S1.out.q.free 1
    have yf2 : (w1).frozen? ⟨w.heap.size + 1 + 1 + 1, 2, none⟩ = false := S1.out.q.free 2
    by_cases hk2 : k < 2
    · go_wp2_with fail
      generalize hW1 : World.setCell (World.setCell (World.setCell (World.setCell (World.setCell w1 _ _) _ _) _ _) _ _) _ _ = W1 at *
      clear hW1
      clear d0 d1 d2 d3 d4 df0 df1 df2 df3 df4 m0 m1 m2 mf0 mf1 mf2 z0 z1 z2 z3 z4 zf0 zf1 zf2 zf3 zf4 y0 y1 y2 yf0 yf1 yf2
      have d0 : (W1).cell? ⟨w.heap.size, 0, none⟩ = some (.int .i64 D1.size) := T1.out.d.cell 0
      have d1 : (W1).cell? ⟨w.heap.size, 1, none⟩ = some (.int .i64 D1.limit) := T1.out.d.cell 1
      have d2 : (W1).cell? ⟨w.heap.size, 2, none⟩ = some (.slice B1 D1.nv e1) := T1.out.d.cell 2
      have d3 : (W1).cell? ⟨w.heap.size, 3, none⟩ = some (.slice B2 D1.ng e2) := T1.out.d.cell 3
      have d4 : (W1).cell? ⟨w.heap.size, 4, none⟩ = some (.slice B3 D1.pend.length e3) := T1.out.d.cell 4
      have df0 : (W1).frozen? ⟨w.heap.size, 0, none⟩ = false := T1.out.d.free 0
      have df1 : (W1).frozen? ⟨w.heap.size, 1, none⟩ = false := T1.out.d.free 1
      have df2 : (W1).frozen? ⟨w.heap.size, 2, none⟩ = false := T1.out.d.free 2
      have df3 : (W1).frozen? ⟨w.heap.size, 3, none⟩ = false := T1.out.d.free 3
      have df4 : (W1).frozen? ⟨w.heap.size, 4, none⟩ = false := T1.out.d.free 4
      have m0 : (W1).cell? ⟨w.heap.size + 1, 0, none⟩ = some (.int .i64 a) := T1.out.m.cell 0
      have m1 : (W1).cell? ⟨w.heap.size + 1, 1, none⟩ = some (.int .i64 rl) := T1.out.m.cell 1
      have m2 : (W1).cell? ⟨w.heap.size + 1, 2, none⟩ = some (.int .u64 (num : Int)) := T1.out.m.cell 2
      have mf0 : (W1).frozen? ⟨w.heap.size + 1, 0, none⟩ = false := T1.out.m.free 0
      have mf1 : (W1).frozen? ⟨w.heap.size + 1, 1, none⟩ = false := T1.out.m.free 1
      have mf2 : (W1).frozen? ⟨w.heap.size + 1, 2, none⟩ = false := T1.out.m.free 2
      have z0 : (W1).cell? ⟨w.heap.size + 1 + 1, 0, none⟩ = some (.int .i64 0) := T1.out.r.cell 0
      have z1 : (W1).cell? ⟨w.heap.size + 1 + 1, 1, none⟩ = some (.int .i64 0) := T1.out.r.cell 1
      have z2 : (W1).cell? ⟨w.heap.size + 1 + 1, 2, none⟩ = some (.slice none 0 0) := T1.out.r.cell 2
      have z3 : (W1).cell? ⟨w.heap.size + 1 + 1, 3, none⟩ = some (.slice none 0 0) := T1.out.r.cell 3
      have z4 : (W1).cell? ⟨w.heap.size + 1 + 1, 4, none⟩ = some (.slice none 0 0) := T1.out.r.cell 4
      have zf0 : (W1).frozen? ⟨w.heap.size + 1 + 1, 0, none⟩ = false := T1.out.r.free 0
      have zf1 : (W1).frozen? ⟨w.heap.size + 1 + 1, 1, none⟩ = false := T1.out.r.free 1
      have zf2 : (W1).frozen? ⟨w.heap.size + 1 + 1, 2, none⟩ = false := T1.out.r.free 2
      have zf3 : (W1).frozen? ⟨w.heap.size + 1 + 1, 3, none⟩ = false := T1.out.r.free 3
      have zf4 : (W1).frozen? ⟨w.heap.size + 1 + 1, 4, none⟩ = false := T1.out.r.free 4
      have y0 : (W1).cell? ⟨w.heap.size + 1 + 1 + 1, 0, none⟩ = some (.int .i64 0) := T1.out.q.cell 0
      have y1 : (W1).cell? ⟨w.heap.size + 1 + 1 + 1, 1, none⟩ = some (.int .i64 0) := T1.out.q.cell 1
      have y2 : (W1).cell? ⟨w.heap.size + 1 + 1 + 1, 2, none⟩ = some (.int .u64 0) := T1.out.q.cell 2
      have yf0 : (W1).frozen? ⟨w.heap.size + 1 + 1 + 1, 0, none⟩ = false := T1.out.q.free 0
      have yf1 : (W1).frozen? ⟨w.heap.size + 1 + 1 + 1, 1, none⟩ = false := T1.out.q.free 1
      have yf2 : (W1).frozen? ⟨w.heap.size + 1 + 1 + 1, 2, none⟩ = false := T1.out.q.free 2
      go_region
      go_wp2_with fail
      exact rs_end T1.out R1.out (mtSteps_stop (i := 1) hlong (by omega) (by omega) (.inr (by omega)) (fun h => absurd h (by omega))) HD1.out.symm rfl rfl rfl rfl rfl rfl rfl rfl rfl
    go_wp2_with fail
    generalize hW1 : World.setCell (World.setCell (World.setCell (World.setCell (World.setCell w1 _ _) _ _) _ _) _ _) _ _ = W1 at *
    clear hW1
    refine (rdsync_any _ D1 W1 R1.out).mono ?_
    rintro e w2 ⟨v2, rfl, hr2, hb2⟩
    obtain ⟨D2, hD2⟩ : ∃ D2, D1.sync = D2 := ⟨_, rfl⟩
    have OK2 : Hid D2.Ok := by rw [Hid, ← hD2]; exact OK1.out.sync
    have HP2 : Hid (D2.pend.length = 0) := by rw [Hid, ← hD2]; rfl
    have HD2 : Hid (dAt D (a + (1 - last)) (recB ((num + 1) % U64) body) 2 = D2) := by rw [Hid, ← hD2, ← HD1.out]; rfl
    rw [hD2] at hr2
    clear hD2
    obtain ⟨F1, f1, F2, f2, F3, f3, rfl⟩ := hr2.shape
    have S2 := Lib.hid (T1.out.to hb2)
    have N2 := T1.out.next hb2 hr2
    simp only at N2
    have T2 := Lib.hid N2.1
    have R2 := Lib.hid N2.2
    clear N2 hr2 hb2
    clear d0 d1 d2 d3 d4 df0 df1 df2 df3 df4 m0 m1 m2 mf0 mf1 mf2 z0 z1 z2 z3 z4 zf0 zf1 zf2 zf3 zf4 y0 y1 y2 yf0 yf1 yf2
    have d0 : (w2).cell? ⟨w.heap.size, 0, none⟩ = some (.int .i64 D1.size) := S2.out.d.cell 0
    have d1 : (w2).cell? ⟨w.heap.size, 1, none⟩ = some (.int .i64 D1.limit) := S2.out.d.cell 1
    have d2 : (w2).cell? ⟨w.heap.size, 2, none⟩ = some (.slice B1 D1.nv e1) := S2.out.d.cell 2
    have d3 : (w2).cell? ⟨w.heap.size, 3, none⟩ = some (.slice B2 D1.ng e2) := S2.out.d.cell 3
    have d4 : (w2).cell? ⟨w.heap.size, 4, none⟩ = some (.slice B3 D1.pend.length e3) := S2.out.d.cell 4
    have df0 : (w2).frozen? ⟨w.heap.size, 0, none⟩ = false := S2.out.d.free 0
    have df1 : (w2).frozen? ⟨w.heap.size, 1, none⟩ = false := S2.out.d.free 1
    have df2 : (w2).frozen? ⟨w.heap.size, 2, none⟩ = false := S2.out.d.free 2
    have df3 : (w2).frozen? ⟨w.heap.size, 3, none⟩ = false := S2.out.d.free 3
    have df4 : (w2).frozen? ⟨w.heap.size, 4, none⟩ = false := S2.out.d.free 4
    have m0 : (w2).cell? ⟨w.heap.size + 1, 0, none⟩ = some (.int .i64 a) := S2.out.m.cell 0
    have m1 : (w2).cell? ⟨w.heap.size + 1, 1, none⟩ = some (.int .i64 rl) := S2.out.m.cell 1
    have m2 : (w2).cell? ⟨w.heap.size + 1, 2, none⟩ = some (.int .u64 (num : Int)) := S2.out.m.cell 2
    have mf0 : (w2).frozen? ⟨w.heap.size + 1, 0, none⟩ = false := S2.out.m.free 0
    have mf1 : (w2).frozen? ⟨w.heap.size + 1, 1, none⟩ = false := S2.out.m.free 1
    have mf2 : (w2).frozen? ⟨w.heap.size + 1, 2, none⟩ = false := S2.out.m.free 2
    have z0 : (w2).cell? ⟨w.heap.size + 1 + 1, 0, none⟩ = some (.int .i64 0) := S2.out.r.cell 0
    have z1 : (w2).cell? ⟨w.heap.size + 1 + 1, 1, none⟩ = some (.int .i64 0) := S2.out.r.cell 1
    have z2 : (w2).cell? ⟨w.heap.size + 1 + 1, 2, none⟩ = some (.slice none 0 0) := S2.out.r.cell 2
    have z3 : (w2).cell? ⟨w.heap.size + 1 + 1, 3, none⟩ = some (.slice none 0 0) := S2.out.r.cell 3
    have z4 : (w2).cell? ⟨w.heap.size + 1 + 1, 4, none⟩ = some (.slice none 0 0) := S2.out.r.cell 4
    have zf0 : (w2).frozen? ⟨w.heap.size + 1 + 1, 0, none⟩ = false := S2.out.r.free 0
    have zf1 : (w2).frozen? ⟨w.heap.size + 1 + 1, 1, none⟩ = false := S2.out.r.free 1
    have zf2 : (w2).frozen? ⟨w.heap.size + 1 + 1, 2, none⟩ = false := S2.out.r.free 2
    have zf3 : (w2).frozen? ⟨w.heap.size + 1 + 1, 3, none⟩ = false := S2.out.r.free 3
    have zf4 : (w2).frozen? ⟨w.heap.size + 1 + 1, 4, none⟩ = false := S2.out.r.free 4
    have y0 : (w2).cell? ⟨w.heap.size + 1 + 1 + 1, 0, none⟩ = some (.int .i64 0) := S2.out.q.cell 0
    have y1 : (w2).cell? ⟨w.heap.size + 1 + 1 + 1, 1, none⟩ = some (.int .i64 0) := S2.out.q.cell 1
    have y2 : (w2).cell? ⟨w.heap.size + 1 + 1 + 1, 2, none⟩ = some (.int .u64 0) := S2.out.q.cell 2
    have yf0 : (w2).frozen? ⟨w.heap.size + 1 + 1 + 1, 0, none⟩ = false := S2.out.q.free 0
    have yf1 : (w2).frozen? ⟨w.heap.size + 1 + 1 + 1, 1, none⟩ = false := S2.out.q.free 1
    have yf2 : (w2).frozen? ⟨w.heap.size + 1 + 1 + 1, 2, none⟩ = false := S2.out.q.free 2
    by_cases hk3 : k < 3
    · go_wp2_with fail
      generalize hW2 : World.setCell (World.setCell (World.setCell (World.setCell (World.setCell w2 _ _) _ _) _ _) _ _) _ _ = W2 at *
      clear hW2
      clear d0 d1 d2 d3 d4 df0 df1 df2 df3 df4 m0 m1 m2 mf0 mf1 mf2 z0 z1 z2 z3 z4 zf0 zf1 zf2 zf3 zf4 y0 y1 y2 yf0 yf1 yf2
      have d0 : (W2).cell? ⟨w.heap.size, 0, none⟩ = some (.int .i64 D2.size) := T2.out.d.cell 0
      have d1 : (W2).cell? ⟨w.heap.size, 1, none⟩ = some (.int .i64 D2.limit) := T2.out.d.cell 1
      have d2 : (W2).cell? ⟨w.heap.size, 2, none⟩ = some (.slice F1 D2.nv f1) := T2.out.d.cell 2
      have d3 : (W2).cell? ⟨w.heap.size, 3, none⟩ = some (.slice F2 D2.ng f2) := T2.out.d.cell 3
      have d4 : (W2).cell? ⟨w.heap.size, 4, none⟩ = some (.slice F3 D2.pend.length f3) := T2.out.d.cell 4
      have df0 : (W2).frozen? ⟨w.heap.size, 0, none⟩ = false := T2.out.d.free 0
      have df1 : (W2).frozen? ⟨w.heap.size, 1, none⟩ = false := T2.out.d.free 1
      have df2 : (W2).frozen? ⟨w.heap.size, 2, none⟩ = false := T2.out.d.free 2
      have df3 : (W2).frozen? ⟨w.heap.size, 3, none⟩ = false := T2.out.d.free 3
      have df4 : (W2).frozen? ⟨w.heap.size, 4, none⟩ = false := T2.out.d.free 4
      have m0 : (W2).cell? ⟨w.heap.size + 1, 0, none⟩ = some (.int .i64 a) := T2.out.m.cell 0
      have m1 : (W2).cell? ⟨w.heap.size + 1, 1, none⟩ = some (.int .i64 rl) := T2.out.m.cell 1
      have m2 : (W2).cell? ⟨w.heap.size + 1, 2, none⟩ = some (.int .u64 (num : Int)) := T2.out.m.cell 2
      have mf0 : (W2).frozen? ⟨w.heap.size + 1, 0, none⟩ = false := T2.out.m.free 0
      have mf1 : (W2).frozen? ⟨w.heap.size + 1, 1, none⟩ = false := T2.out.m.free 1
      have mf2 : (W2).frozen? ⟨w.heap.size + 1, 2, none⟩ = false := T2.out.m.free 2
      have z0 : (W2).cell? ⟨w.heap.size + 1 + 1, 0, none⟩ = some (.int .i64 0) := T2.out.r.cell 0
      have z1 : (W2).cell? ⟨w.heap.size + 1 + 1, 1, none⟩ = some (.int .i64 0) := T2.out.r.cell 1
      have z2 : (W2).cell? ⟨w.heap.size + 1 + 1, 2, none⟩ = some (.slice none 0 0) := T2.out.r.cell 2
      have z3 : (W2).cell? ⟨w.heap.size + 1 + 1, 3, none⟩ = some (.slice none 0 0) := T2.out.r.cell 3
      have z4 : (W2).cell? ⟨w.heap.size + 1 + 1, 4, none⟩ = some (.slice none 0 0) := T2.out.r.cell 4
      have zf0 : (W2).frozen? ⟨w.heap.size + 1 + 1, 0, none⟩ = false := T2.out.r.free 0
      have zf1 : (W2).frozen? ⟨w.heap.size + 1 + 1, 1, none⟩ = false := T2.out.r.free 1
      have zf2 : (W2).frozen? ⟨w.heap.size + 1 + 1, 2, none⟩ = false := T2.out.r.free 2
      have zf3 : (W2).frozen? ⟨w.heap.size + 1 + 1, 3, none⟩ = false := T2.out.r.free 3
      have zf4 : (W2).frozen? ⟨w.heap.size + 1 + 1, 4, none⟩ = false := T2.out.r.free 4
      have y0 : (W2).cell? ⟨w.heap.size + 1 + 1 + 1, 0, none⟩ = some (.int .i64 0) := T2.out.q.cell 0
      have y1 : (W2).cell? ⟨w.heap.size + 1 + 1 + 1, 1, none⟩ = some (.int .i64 0) := T2.out.q.cell 1
      have y2 : (W2).cell? ⟨w.heap.size + 1 + 1 + 1, 2, none⟩ = some (.int .u64 0) := T2.out.q.cell 2
      have yf0 : (W2).frozen? ⟨w.heap.size + 1 + 1 + 1, 0, none⟩ = false := T2.out.q.free 0
      have yf1 : (W2).frozen? ⟨w.heap.size + 1 + 1 + 1, 1, none⟩ = false := T2.out.q.free 1
      have yf2 : (W2).frozen? ⟨w.heap.size + 1 + 1 + 1, 2, none⟩ = false := T2.out.q.free 2
      go_region
      go_wp2_with fail
      exact rs_end T2.out R2.out (mtSteps_stop (i := 2) hlong (by omega) (by omega) (.inr (by omega)) (fun h => absurd h (by omega))) HD2.out.symm rfl rfl rfl rfl rfl rfl rfl rfl rfl
    have hqn : (num + 1) % U64 < U64 := Nat.mod_lt _ (by unfold U64; omega)
    obtain ⟨q, hq⟩ : ∃ q, (num + 1) % U64 = q := ⟨_, rfl⟩
    have HQ := Lib.hid hq
    rw [hq] at hwr hqn HD2
    have HQN := Lib.hid hqn
    have hput : refRPutV q body = .tuple #[.string (st (recB q body)), .int .i64 0] := by unfold refRPutV; rw [if_neg (by omega)]
    have hrl' : (recB q body).length ≤ 1099511627776 := by have := recB_len q body; have := recF_len HQN.out (t := body) (by omega); omega
    clear hq hqn
    go_wp2_with fail
    generalize hW2 : World.setCell (World.setCell (World.setCell (World.setCell (World.setCell w2 _ _) _ _) _ _) _ _) _ _ = W2 at *
    clear hW2
    refine (refRPut_any q body W2 HQN.out (by omega)).mono ?_
    rintro e w3 ⟨rfl, hb3⟩
    rw [hput]
    have S3 := Lib.hid (T2.out.to hb3)
    have R3 := Lib.hid (R2.out.later hb3)
    clear hb3
    clear d0 d1 d2 d3 d4 df0 df1 df2 df3 df4 m0 m1 m2 mf0 mf1 mf2 z0 z1 z2 z3 z4 zf0 zf1 zf2 zf3 zf4 y0 y1 y2 yf0 yf1 yf2
    have d0 : (w3).cell? ⟨w.heap.size, 0, none⟩ = some (.int .i64 D2.size) := S3.out.d.cell 0
    have d1 : (w3).cell? ⟨w.heap.size, 1, none⟩ = some (.int .i64 D2.limit) := S3.out.d.cell 1
    have d2 : (w3).cell? ⟨w.heap.size, 2, none⟩ = some (.slice F1 D2.nv f1) := S3.out.d.cell 2
    have d3 : (w3).cell? ⟨w.heap.size, 3, none⟩ = some (.slice F2 D2.ng f2) := S3.out.d.cell 3
    have d4 : (w3).cell? ⟨w.heap.size, 4, none⟩ = some (.slice F3 D2.pend.length f3) := S3.out.d.cell 4
    have df0 : (w3).frozen? ⟨w.heap.size, 0, none⟩ = false := S3.out.d.free 0
    have df1 : (w3).frozen? ⟨w.heap.size, 1, none⟩ = false := S3.out.d.free 1
    have df2 : (w3).frozen? ⟨w.heap.size, 2, none⟩ = false := S3.out.d.free 2
    have df3 : (w3).frozen? ⟨w.heap.size, 3, none⟩ = false := S3.out.d.free 3
    have df4 : (w3).frozen? ⟨w.heap.size, 4, none⟩ = false := S3.out.d.free 4
    have m0 : (w3).cell? ⟨w.heap.size + 1, 0, none⟩ = some (.int .i64 a) := S3.out.m.cell 0
    have m1 : (w3).cell? ⟨w.heap.size + 1, 1, none⟩ = some (.int .i64 rl) := S3.out.m.cell 1
    have m2 : (w3).cell? ⟨w.heap.size + 1, 2, none⟩ = some (.int .u64 (num : Int)) := S3.out.m.cell 2
    have mf0 : (w3).frozen? ⟨w.heap.size + 1, 0, none⟩ = false := S3.out.m.free 0
    have mf1 : (w3).frozen? ⟨w.heap.size + 1, 1, none⟩ = false := S3.out.m.free 1
    have mf2 : (w3).frozen? ⟨w.heap.size + 1, 2, none⟩ = false := S3.out.m.free 2
    have z0 : (w3).cell? ⟨w.heap.size + 1 + 1, 0, none⟩ = some (.int .i64 0) := S3.out.r.cell 0
    have z1 : (w3).cell? ⟨w.heap.size + 1 + 1, 1, none⟩ = some (.int .i64 0) := S3.out.r.cell 1
    have z2 : (w3).cell? ⟨w.heap.size + 1 + 1, 2, none⟩ = some (.slice none 0 0) := S3.out.r.cell 2
    have z3 : (w3).cell? ⟨w.heap.size + 1 + 1, 3, none⟩ = some (.slice none 0 0) := S3.out.r.cell 3
    have z4 : (w3).cell? ⟨w.heap.size + 1 + 1, 4, none⟩ = some (.slice none 0 0) := S3.out.r.cell 4
    have zf0 : (w3).frozen? ⟨w.heap.size + 1 + 1, 0, none⟩ = false := S3.out.r.free 0
    have zf1 : (w3).frozen? ⟨w.heap.size + 1 + 1, 1, none⟩ = false := S3.out.r.free 1
    have zf2 : (w3).frozen? ⟨w.heap.size + 1 + 1, 2, none⟩ = false := S3.out.r.free 2
    have zf3 : (w3).frozen? ⟨w.heap.size + 1 + 1, 3, none⟩ = false := S3.out.r.free 3
    have zf4 : (w3).frozen? ⟨w.heap.size + 1 + 1, 4, none⟩ = false := S3.out.r.free 4
    have y0 : (w3).cell? ⟨w.heap.size + 1 + 1 + 1, 0, none⟩ = some (.int .i64 0) := S3.out.q.cell 0
    have y1 : (w3).cell? ⟨w.heap.size + 1 + 1 + 1, 1, none⟩ = some (.int .i64 0) := S3.out.q.cell 1
    have y2 : (w3).cell? ⟨w.heap.size + 1 + 1 + 1, 2, none⟩ = some (.int .u64 0) := S3.out.q.cell 2
    have yf0 : (w3).frozen? ⟨w.heap.size + 1 + 1 + 1, 0, none⟩ = false := S3.out.q.free 0
    have yf1 : (w3).frozen? ⟨w.heap.size + 1 + 1 + 1, 1, none⟩ = false := S3.out.q.free 1
    have yf2 : (w3).frozen? ⟨w.heap.size + 1 + 1 + 1, 2, none⟩ = false := S3.out.q.free 2
    go_wp2_with fail
    refine (rdwrite_any _ D2 (a + (1 - last)) (recB q body) w3 R3.out OK2.out (by have := HP2.out; omega) hrl').mono ?_
    rintro e w4 ⟨v4, rfl, hr4, hb4⟩
    obtain ⟨D3, hD3⟩ : ∃ D3, D2.write (a + (1 - last)) (recB q body) = D3 := ⟨_, rfl⟩
    have HD3 := Lib.hid hD3
    rw [hD3] at hr4
    clear hD3
    obtain ⟨G1, g1, G2, g2, G3, g3, rfl⟩ := hr4.shape
    have qa : Below w4.heap.size w4 (w4.alloc (.cells #[.int .i64 D3.size, .int .i64 D3.limit, .slice G1 D3.nv g1, .slice G2 D3.ng g2, .slice G3 D3.pend.length g3] 49)) := (Below.refl _ _).alloc (Nat.le_refl _) _
    have S4 := Lib.hid ((S3.out.to hb4).to qa)
    have R4 := Lib.hid (hr4.later qa)
    have N4 := S3.out.next (hb4.trans (qa.mono hb4.size)) (hr4.later qa)
    simp only at N4
    have T4 := Lib.hid N4.1
    have R5 := Lib.hid N4.2
    clear N4 qa hr4
    have hz4 : w.heap.size + 1 + 1 + 1 < w4.heap.size := by have := (S3.out.to hb4).size; omega
    clear hb4
    clear d0 d1 d2 d3 d4 df0 df1 df2 df3 df4 m0 m1 m2 mf0 mf1 mf2 z0 z1 z2 z3 z4 zf0 zf1 zf2 zf3 zf4 y0 y1 y2 yf0 yf1 yf2
    have d0 : ((w4.alloc (.cells #[.int .i64 D3.size, .int .i64 D3.limit, .slice G1 D3.nv g1, .slice G2 D3.ng g2, .slice G3 D3.pend.length g3] 49))).cell? ⟨w.heap.size, 0, none⟩ = some (.int .i64 D2.size) := S4.out.d.cell 0
    have d1 : ((w4.alloc (.cells #[.int .i64 D3.size, .int .i64 D3.limit, .slice G1 D3.nv g1, .slice G2 D3.ng g2, .slice G3 D3.pend.length g3] 49))).cell? ⟨w.heap.size, 1, none⟩ = some (.int .i64 D2.limit) := S4.out.d.cell 1
    have d2 : ((w4.alloc (.cells #[.int .i64 D3.size, .int .i64 D3.limit, .slice G1 D3.nv g1, .slice G2 D3.ng g2, .slice G3 D3.pend.length g3] 49))).cell? ⟨w.heap.size, 2, none⟩ = some (.slice F1 D2.nv f1) := S4.out.d.cell 2
    have d3 : ((w4.alloc (.cells #[.int .i64 D3.size, .int .i64 D3.limit, .slice G1 D3.nv g1, .slice G2 D3.ng g2, .slice G3 D3.pend.length g3] 49))).cell? ⟨w.heap.size, 3, none⟩ = some (.slice F2 D2.ng f2) := S4.out.d.cell 3
    have d4 : ((w4.alloc (.cells #[.int .i64 D3.size, .int .i64 D3.limit, .slice G1 D3.nv g1, .slice G2 D3.ng g2, .slice G3 D3.pend.length g3] 49))).cell? ⟨w.heap.size, 4, none⟩ = some (.slice F3 D2.pend.length f3) := S4.out.d.cell 4
    have df0 : ((w4.alloc (.cells #[.int .i64 D3.size, .int .i64 D3.limit, .slice G1 D3.nv g1, .slice G2 D3.ng g2, .slice G3 D3.pend.length g3] 49))).frozen? ⟨w.heap.size, 0, none⟩ = false := S4.out.d.free 0
    have df1 : ((w4.alloc (.cells #[.int .i64 D3.size, .int .i64 D3.limit, .slice G1 D3.nv g1, .slice G2 D3.ng g2, .slice G3 D3.pend.length g3] 49))).frozen? ⟨w.heap.size, 1, none⟩ = false := S4.out.d.free 1
    have df2 : ((w4.alloc (.cells #[.int .i64 D3.size, .int .i64 D3.limit, .slice G1 D3.nv g1, .slice G2 D3.ng g2, .slice G3 D3.pend.length g3] 49))).frozen? ⟨w.heap.size, 2, none⟩ = false := S4.out.d.free 2
    have df3 : ((w4.alloc (.cells #[.int .i64 D3.size, .int .i64 D3.limit, .slice G1 D3.nv g1, .slice G2 D3.ng g2, .slice G3 D3.pend.length g3] 49))).frozen? ⟨w.heap.size, 3, none⟩ = false := S4.out.d.free 3
    have df4 : ((w4.alloc (.cells #[.int .i64 D3.size, .int .i64 D3.limit, .slice G1 D3.nv g1, .slice G2 D3.ng g2, .slice G3 D3.pend.length g3] 49))).frozen? ⟨w.heap.size, 4, none⟩ = false := S4.out.d.free 4
    have m0 : ((w4.alloc (.cells #[.int .i64 D3.size, .int .i64 D3.limit, .slice G1 D3.nv g1, .slice G2 D3.ng g2, .slice G3 D3.pend.length g3] 49))).cell? ⟨w.heap.size + 1, 0, none⟩ = some (.int .i64 a) := S4.out.m.cell 0
    have m1 : ((w4.alloc (.cells #[.int .i64 D3.size, .int .i64 D3.limit, .slice G1 D3.nv g1, .slice G2 D3.ng g2, .slice G3 D3.pend.length g3] 49))).cell? ⟨w.heap.size + 1, 1, none⟩ = some (.int .i64 rl) := S4.out.m.cell 1
    have m2 : ((w4.alloc (.cells #[.int .i64 D3.size, .int .i64 D3.limit, .slice G1 D3.nv g1, .slice G2 D3.ng g2, .slice G3 D3.pend.length g3] 49))).cell? ⟨w.heap.size + 1, 2, none⟩ = some (.int .u64 (num : Int)) := S4.out.m.cell 2
    have mf0 : ((w4.alloc (.cells #[.int .i64 D3.size, .int .i64 D3.limit, .slice G1 D3.nv g1, .slice G2 D3.ng g2, .slice G3 D3.pend.length g3] 49))).frozen? ⟨w.heap.size + 1, 0, none⟩ = false := S4.out.m.free 0
    have mf1 : ((w4.alloc (.cells #[.int .i64 D3.size, .int .i64 D3.limit, .slice G1 D3.nv g1, .slice G2 D3.ng g2, .slice G3 D3.pend.length g3] 49))).frozen? ⟨w.heap.size + 1, 1, none⟩ = false := S4.out.m.free 1
    have mf2 : ((w4.alloc (.cells #[.int .i64 D3.size, .int .i64 D3.limit, .slice G1 D3.nv g1, .slice G2 D3.ng g2, .slice G3 D3.pend.length g3] 49))).frozen? ⟨w.heap.size + 1, 2, none⟩ = false := S4.out.m.free 2
    have z0 : ((w4.alloc (.cells #[.int .i64 D3.size, .int .i64 D3.limit, .slice G1 D3.nv g1, .slice G2 D3.ng g2, .slice G3 D3.pend.length g3] 49))).cell? ⟨w.heap.size + 1 + 1, 0, none⟩ = some (.int .i64 0) := S4.out.r.cell 0
    have z1 : ((w4.alloc (.cells #[.int .i64 D3.size, .int .i64 D3.limit, .slice G1 D3.nv g1, .slice G2 D3.ng g2, .slice G3 D3.pend.length g3] 49))).cell? ⟨w.heap.size + 1 + 1, 1, none⟩ = some (.int .i64 0) := S4.out.r.cell 1
    have z2 : ((w4.alloc (.cells #[.int .i64 D3.size, .int .i64 D3.limit, .slice G1 D3.nv g1, .slice G2 D3.ng g2, .slice G3 D3.pend.length g3] 49))).cell? ⟨w.heap.size + 1 + 1, 2, none⟩ = some (.slice none 0 0) := S4.out.r.cell 2
    have z3 : ((w4.alloc (.cells #[.int .i64 D3.size, .int .i64 D3.limit, .slice G1 D3.nv g1, .slice G2 D3.ng g2, .slice G3 D3.pend.length g3] 49))).cell? ⟨w.heap.size + 1 + 1, 3, none⟩ = some (.slice none 0 0) := S4.out.r.cell 3
    have z4 : ((w4.alloc (.cells #[.int .i64 D3.size, .int .i64 D3.limit, .slice G1 D3.nv g1, .slice G2 D3.ng g2, .slice G3 D3.pend.length g3] 49))).cell? ⟨w.heap.size + 1 + 1, 4, none⟩ = some (.slice none 0 0) := S4.out.r.cell 4
    have zf0 : ((w4.alloc (.cells #[.int .i64 D3.size, .int .i64 D3.limit, .slice G1 D3.nv g1, .slice G2 D3.ng g2, .slice G3 D3.pend.length g3] 49))).frozen? ⟨w.heap.size + 1 + 1, 0, none⟩ = false := S4.out.r.free 0
    have zf1 : ((w4.alloc (.cells #[.int .i64 D3.size, .int .i64 D3.limit, .slice G1 D3.nv g1, .slice G2 D3.ng g2, .slice G3 D3.pend.length g3] 49))).frozen? ⟨w.heap.size + 1 + 1, 1, none⟩ = false := S4.out.r.free 1
    have zf2 : ((w4.alloc (.cells #[.int .i64 D3.size, .int .i64 D3.limit, .slice G1 D3.nv g1, .slice G2 D3.ng g2, .slice G3 D3.pend.length g3] 49))).frozen? ⟨w.heap.size + 1 + 1, 2, none⟩ = false := S4.out.r.free 2
    have zf3 : ((w4.alloc (.cells #[.int .i64 D3.size, .int .i64 D3.limit, .slice G1 D3.nv g1, .slice G2 D3.ng g2, .slice G3 D3.pend.length g3] 49))).frozen? ⟨w.heap.size + 1 + 1, 3, none⟩ = false := S4.out.r.free 3
    have zf4 : ((w4.alloc (.cells #[.int .i64 D3.size, .int .i64 D3.limit, .slice G1 D3.nv g1, .slice G2 D3.ng g2, .slice G3 D3.pend.length g3] 49))).frozen? ⟨w.heap.size + 1 + 1, 4, none⟩ = false := S4.out.r.free 4
    have y0 : ((w4.alloc (.cells #[.int .i64 D3.size, .int .i64 D3.limit, .slice G1 D3.nv g1, .slice G2 D3.ng g2, .slice G3 D3.pend.length g3] 49))).cell? ⟨w.heap.size + 1 + 1 + 1, 0, none⟩ = some (.int .i64 0) := S4.out.q.cell 0
    have y1 : ((w4.alloc (.cells #[.int .i64 D3.size, .int .i64 D3.limit, .slice G1 D3.nv g1, .slice G2 D3.ng g2, .slice G3 D3.pend.length g3] 49))).cell? ⟨w.heap.size + 1 + 1 + 1, 1, none⟩ = some (.int .i64 0) := S4.out.q.cell 1
    have y2 : ((w4.alloc (.cells #[.int .i64 D3.size, .int .i64 D3.limit, .slice G1 D3.nv g1, .slice G2 D3.ng g2, .slice G3 D3.pend.length g3] 49))).cell? ⟨w.heap.size + 1 + 1 + 1, 2, none⟩ = some (.int .u64 0) := S4.out.q.cell 2
    have yf0 : ((w4.alloc (.cells #[.int .i64 D3.size, .int .i64 D3.limit, .slice G1 D3.nv g1, .slice G2 D3.ng g2, .slice G3 D3.pend.length g3] 49))).frozen? ⟨w.heap.size + 1 + 1 + 1, 0, none⟩ = false := S4.out.q.free 0
    have yf1 : ((w4.alloc (.cells #[.int .i64 D3.size, .int .i64 D3.limit, .slice G1 D3.nv g1, .slice G2 D3.ng g2, .slice G3 D3.pend.length g3] 49))).frozen? ⟨w.heap.size + 1 + 1 + 1, 1, none⟩ = false := S4.out.q.free 1
    have yf2 : ((w4.alloc (.cells #[.int .i64 D3.size, .int .i64 D3.limit, .slice G1 D3.nv g1, .slice G2 D3.ng g2, .slice G3 D3.pend.length g3] 49))).frozen? ⟨w.heap.size + 1 + 1 + 1, 2, none⟩ = false := S4.out.q.free 2
    by_cases hwy : D2.why (a + (1 - last)) (recB q body) = 0
    case neg =>
      have HWN := Lib.hid hwy
      obtain ⟨yy, hy⟩ : ∃ yy, D2.why (a + (1 - last)) (recB q body) = yy := ⟨_, rfl⟩
      have HYY := Lib.hid hy
      have hyb : ((yy : Int) != 0) = true := by rw [hy] at hwy; simp; omega
      have HE : Hid (D3 = D2) := by rw [Hid, ← HD3.out]; unfold Dsk.write; rw [if_neg HWN.out]
      rw [hy]
      clear hwy hy
      go_wp2_with fail
      go_region
      go_wp2_with fail
      exact rs_end S4.out R4.out (mtSteps_err hlong (by omega) (by rw [HQ.out, HD2.out]; exact HWN.out)) (by rw [HQ.out, HD2.out]; exact HE.out) rfl rfl rfl (by rw [HQ.out, HD2.out, HYY.out]) rfl rfl rfl rfl rfl
    have HW0 := Lib.hid hwy
    have HDD : Hid (dAt D (a + (1 - last)) (recB ((num + 1) % U64) body) 3 = D3) := by rw [Hid, HQ.out, ← HD3.out, ← HD2.out]; rfl
    have HWW : Hid ((dAt D (a + (1 - last)) (recB ((num + 1) % U64) body) 2).why (a + (1 - last)) (recB ((num + 1) % U64) body) = 0) := by rw [Hid, HQ.out, HD2.out]; exact HW0.out
    rw [hwy]
    clear hwy
    by_cases hk4 : k < 4
    · go_wp2_with fail
      generalize hW4 : World.setCell (World.setCell (World.setCell (World.setCell (World.setCell (w4.alloc _) _ _) _ _) _ _) _ _) _ _ = W4 at *
      clear hW4
      clear d0 d1 d2 d3 d4 df0 df1 df2 df3 df4 m0 m1 m2 mf0 mf1 mf2 z0 z1 z2 z3 z4 zf0 zf1 zf2 zf3 zf4 y0 y1 y2 yf0 yf1 yf2
      have d0 : (W4).cell? ⟨w.heap.size, 0, none⟩ = some (.int .i64 D3.size) := T4.out.d.cell 0
      have d1 : (W4).cell? ⟨w.heap.size, 1, none⟩ = some (.int .i64 D3.limit) := T4.out.d.cell 1
      have d2 : (W4).cell? ⟨w.heap.size, 2, none⟩ = some (.slice G1 D3.nv g1) := T4.out.d.cell 2
      have d3 : (W4).cell? ⟨w.heap.size, 3, none⟩ = some (.slice G2 D3.ng g2) := T4.out.d.cell 3
      have d4 : (W4).cell? ⟨w.heap.size, 4, none⟩ = some (.slice G3 D3.pend.length g3) := T4.out.d.cell 4
      have df0 : (W4).frozen? ⟨w.heap.size, 0, none⟩ = false := T4.out.d.free 0
      have df1 : (W4).frozen? ⟨w.heap.size, 1, none⟩ = false := T4.out.d.free 1
      have df2 : (W4).frozen? ⟨w.heap.size, 2, none⟩ = false := T4.out.d.free 2
      have df3 : (W4).frozen? ⟨w.heap.size, 3, none⟩ = false := T4.out.d.free 3
      have df4 : (W4).frozen? ⟨w.heap.size, 4, none⟩ = false := T4.out.d.free 4
      have m0 : (W4).cell? ⟨w.heap.size + 1, 0, none⟩ = some (.int .i64 a) := T4.out.m.cell 0
      have m1 : (W4).cell? ⟨w.heap.size + 1, 1, none⟩ = some (.int .i64 rl) := T4.out.m.cell 1
      have m2 : (W4).cell? ⟨w.heap.size + 1, 2, none⟩ = some (.int .u64 (num : Int)) := T4.out.m.cell 2
      have mf0 : (W4).frozen? ⟨w.heap.size + 1, 0, none⟩ = false := T4.out.m.free 0
      have mf1 : (W4).frozen? ⟨w.heap.size + 1, 1, none⟩ = false := T4.out.m.free 1
      have mf2 : (W4).frozen? ⟨w.heap.size + 1, 2, none⟩ = false := T4.out.m.free 2
      have z0 : (W4).cell? ⟨w.heap.size + 1 + 1, 0, none⟩ = some (.int .i64 0) := T4.out.r.cell 0
      have z1 : (W4).cell? ⟨w.heap.size + 1 + 1, 1, none⟩ = some (.int .i64 0) := T4.out.r.cell 1
      have z2 : (W4).cell? ⟨w.heap.size + 1 + 1, 2, none⟩ = some (.slice none 0 0) := T4.out.r.cell 2
      have z3 : (W4).cell? ⟨w.heap.size + 1 + 1, 3, none⟩ = some (.slice none 0 0) := T4.out.r.cell 3
      have z4 : (W4).cell? ⟨w.heap.size + 1 + 1, 4, none⟩ = some (.slice none 0 0) := T4.out.r.cell 4
      have zf0 : (W4).frozen? ⟨w.heap.size + 1 + 1, 0, none⟩ = false := T4.out.r.free 0
      have zf1 : (W4).frozen? ⟨w.heap.size + 1 + 1, 1, none⟩ = false := T4.out.r.free 1
      have zf2 : (W4).frozen? ⟨w.heap.size + 1 + 1, 2, none⟩ = false := T4.out.r.free 2
      have zf3 : (W4).frozen? ⟨w.heap.size + 1 + 1, 3, none⟩ = false := T4.out.r.free 3
      have zf4 : (W4).frozen? ⟨w.heap.size + 1 + 1, 4, none⟩ = false := T4.out.r.free 4
      have y0 : (W4).cell? ⟨w.heap.size + 1 + 1 + 1, 0, none⟩ = some (.int .i64 0) := T4.out.q.cell 0
      have y1 : (W4).cell? ⟨w.heap.size + 1 + 1 + 1, 1, none⟩ = some (.int .i64 0) := T4.out.q.cell 1
      have y2 : (W4).cell? ⟨w.heap.size + 1 + 1 + 1, 2, none⟩ = some (.int .u64 0) := T4.out.q.cell 2
      have yf0 : (W4).frozen? ⟨w.heap.size + 1 + 1 + 1, 0, none⟩ = false := T4.out.q.free 0
      have yf1 : (W4).frozen? ⟨w.heap.size + 1 + 1 + 1, 1, none⟩ = false := T4.out.q.free 1
      have yf2 : (W4).frozen? ⟨w.heap.size + 1 + 1 + 1, 2, none⟩ = false := T4.out.q.free 2
      go_region
      go_wp2_with fail
      exact rs_end T4.out R5.out (mtSteps_stop (i := 3) hlong (by omega) (by omega) (.inr (by omega)) (fun _ => HWW.out)) HDD.out.symm rfl rfl rfl rfl rfl rfl rfl rfl rfl
    have HDS : Hid (dAt D (a + (1 - last)) (recB ((num + 1) % U64) body) 4 = D3.sync) := by rw [Hid, ← HDD.out]; rfl
    go_wp2_with fail
    generalize hW4 : World.setCell (World.setCell (World.setCell (World.setCell (World.setCell (w4.alloc _) _ _) _ _) _ _) _ _) _ _ = W4 at *
    clear hW4
    clear d0 d1 d2 d3 d4 df0 df1 df2 df3 df4 m0 m1 m2 mf0 mf1 mf2 z0 z1 z2 z3 z4 zf0 zf1 zf2 zf3 zf4 y0 y1 y2 yf0 yf1 yf2
    have d0 : (W4).cell? ⟨w.heap.size, 0, none⟩ = some (.int .i64 D3.size) := T4.out.d.cell 0
    have d1 : (W4).cell? ⟨w.heap.size, 1, none⟩ = some (.int .i64 D3.limit) := T4.out.d.cell 1
    have d2 : (W4).cell? ⟨w.heap.size, 2, none⟩ = some (.slice G1 D3.nv g1) := T4.out.d.cell 2
    have d3 : (W4).cell? ⟨w.heap.size, 3, none⟩ = some (.slice G2 D3.ng g2) := T4.out.d.cell 3
    have d4 : (W4).cell? ⟨w.heap.size, 4, none⟩ = some (.slice G3 D3.pend.length g3) := T4.out.d.cell 4
    have df0 : (W4).frozen? ⟨w.heap.size, 0, none⟩ = false := T4.out.d.free 0
    have df1 : (W4).frozen? ⟨w.heap.size, 1, none⟩ = false := T4.out.d.free 1
    have df2 : (W4).frozen? ⟨w.heap.size, 2, none⟩ = false := T4.out.d.free 2
    have df3 : (W4).frozen? ⟨w.heap.size, 3, none⟩ = false := T4.out.d.free 3
    have df4 : (W4).frozen? ⟨w.heap.size, 4, none⟩ = false := T4.out.d.free 4
    have m0 : (W4).cell? ⟨w.heap.size + 1, 0, none⟩ = some (.int .i64 a) := T4.out.m.cell 0
    have m1 : (W4).cell? ⟨w.heap.size + 1, 1, none⟩ = some (.int .i64 rl) := T4.out.m.cell 1
    have m2 : (W4).cell? ⟨w.heap.size + 1, 2, none⟩ = some (.int .u64 (num : Int)) := T4.out.m.cell 2
    have mf0 : (W4).frozen? ⟨w.heap.size + 1, 0, none⟩ = false := T4.out.m.free 0
    have mf1 : (W4).frozen? ⟨w.heap.size + 1, 1, none⟩ = false := T4.out.m.free 1
    have mf2 : (W4).frozen? ⟨w.heap.size + 1, 2, none⟩ = false := T4.out.m.free 2
    have z0 : (W4).cell? ⟨w.heap.size + 1 + 1, 0, none⟩ = some (.int .i64 0) := T4.out.r.cell 0
    have z1 : (W4).cell? ⟨w.heap.size + 1 + 1, 1, none⟩ = some (.int .i64 0) := T4.out.r.cell 1
    have z2 : (W4).cell? ⟨w.heap.size + 1 + 1, 2, none⟩ = some (.slice none 0 0) := T4.out.r.cell 2
    have z3 : (W4).cell? ⟨w.heap.size + 1 + 1, 3, none⟩ = some (.slice none 0 0) := T4.out.r.cell 3
    have z4 : (W4).cell? ⟨w.heap.size + 1 + 1, 4, none⟩ = some (.slice none 0 0) := T4.out.r.cell 4
    have zf0 : (W4).frozen? ⟨w.heap.size + 1 + 1, 0, none⟩ = false := T4.out.r.free 0
    have zf1 : (W4).frozen? ⟨w.heap.size + 1 + 1, 1, none⟩ = false := T4.out.r.free 1
    have zf2 : (W4).frozen? ⟨w.heap.size + 1 + 1, 2, none⟩ = false := T4.out.r.free 2
    have zf3 : (W4).frozen? ⟨w.heap.size + 1 + 1, 3, none⟩ = false := T4.out.r.free 3
    have zf4 : (W4).frozen? ⟨w.heap.size + 1 + 1, 4, none⟩ = false := T4.out.r.free 4
    have y0 : (W4).cell? ⟨w.heap.size + 1 + 1 + 1, 0, none⟩ = some (.int .i64 0) := T4.out.q.cell 0
    have y1 : (W4).cell? ⟨w.heap.size + 1 + 1 + 1, 1, none⟩ = some (.int .i64 0) := T4.out.q.cell 1
    have y2 : (W4).cell? ⟨w.heap.size + 1 + 1 + 1, 2, none⟩ = some (.int .u64 0) := T4.out.q.cell 2
    have yf0 : (W4).frozen? ⟨w.heap.size + 1 + 1 + 1, 0, none⟩ = false := T4.out.q.free 0
    have yf1 : (W4).frozen? ⟨w.heap.size + 1 + 1 + 1, 1, none⟩ = false := T4.out.q.free 1
    have yf2 : (W4).frozen? ⟨w.heap.size + 1 + 1 + 1, 2, none⟩ = false := T4.out.q.free 2
    clear df0 df1 df2 df3 df4 T1 R1 T2 R2 S0 S1 S2 S3 S4 R3 R4 HR HR0 HRL OK1 OK2 HOK HNU HP2 HD1 HD2 HD3 HQN HW0 hk1 hk2 hk3 hx0 hx1 hz4 hfp hput hrl' hlen
    refine wp_region_put [⟨9, w.heap.size + 1 + 1, 49, 0, 5⟩, ⟨10, w.heap.size + 1 + 1 + 1, 53, 0, 3⟩] (by kernel_rfl) (by kernel_rfl) ?_
    apply Exists.intro
    apply And.intro
    · repeat (first
        | (apply wpReg_skip rfl
           intro K hK
           go_simp
           refine hK _ ?_
           clear hK K)
        | (apply wpReg_is rfl rfl
           · intro wg hwg _
             replace hwg := hwg.mono ptX_E
             obtain ⟨d0, d1, d2, d3, d4, m0, m2⟩ := rs_facts hwg d0 d1 d2 d3 d4 m0 m2
             unfold grows
             go_simp
             first
               | exact grows_value _ _
           intro K hK
           go_simp
           refine hK _ ?_
           clear hK K))
      apply wpReg_rel (V := VRd D3.sync) rfl rfl
      · intro wg hwg hf
        replace hwg := hwg.mono ptX_E
        unfold grows
        go_simp
        refine ⟨Below.refl _ _, (rdsync_any _ D3 _ (R5.out.same (rs_same T4.out hwg))).mono ?_⟩
        rintro e w5 ⟨v5, rfl, hr5, hb5⟩
        exact ⟨_, rfl, hb5, hr5⟩
      intro xv hxv K hK
      obtain ⟨wx, _, hbx⟩ := hxv
      obtain ⟨H1, h1, H2, h2, H3, h3, rfl⟩ := hbx.shape
      go_simp
      refine hK _ ?_
      clear hK K hbx
      repeat (first
        | (apply wpReg_skip rfl
           intro K hK
           go_simp
           refine hK _ ?_
           clear hK K)
        | (apply wpReg_is rfl rfl
           · intro wg hwg _
             replace hwg := hwg.mono ptX_E
             obtain ⟨d0, d1, d2, d3, d4, m0, m2⟩ := rs_facts hwg d0 d1 d2 d3 d4 m0 m2
             unfold grows
             go_simp
             first
               | exact grows_value _ _
           intro K hK
           go_simp
           refine hK _ ?_
           clear hK K))
      apply wpReg_store (VRd D3.sync) (#[.int .i64 D3.sync.size, .int .i64 D3.sync.limit, .slice H1 D3.sync.nv h1, .slice H2 D3.sync.ng h2, .slice H3 D3.sync.pend.length h3])
      · rfl
      · rfl
      rotate_left 4
      · exact T4.out.r
      rotate_right 4
      · kernel_rfl
      · kernel_rfl
      · kernel_rfl
      · kernel_rfl
      · kernel_rfl
      · kernel_rfl
      · exact fun wg hwg hf => hf ⟨1, .data⟩ (by simp) rfl _ _ rfl
      · exact fun p hp => VRd.pstays _ (by rw [hp]; decide)
      intro K hK
      go_simp
      refine hK _ ?_
      clear hK K
      apply wpReg_store (Is (.agg #[.int .i64 a, .int .i64 (1 - last), .int .u64 (q : Int)])) (#[.int .i64 a, .int .i64 (1 - last), .int .u64 (q : Int)])
      · rfl
      · rfl
      rotate_left 4
      · exact T4.out.q
      rotate_right 4
      · kernel_rfl
      · kernel_rfl
      · kernel_rfl
      · kernel_rfl
      · kernel_rfl
      · kernel_rfl
      · exact fun wg hwg hf => rfl
      · exact fun p hp => Is.pstays _ p
      intro K hK
      go_simp
      refine hK _ ?_
      clear hK K
      repeat (first
        | (apply wpReg_skip rfl
           intro K hK
           go_simp
           refine hK _ ?_
           clear hK K)
        | (apply wpReg_is rfl rfl
           · intro wg hwg _
             replace hwg := hwg.mono ptX_E
             unfold grows
             go_simp
             first
               | exact grows_value _ _
           intro K hK
           go_simp
           refine hK _ ?_
           clear hK K))
      refine wpReg_end (fun wf hE hf => ?_)
      have g9 := hf 9 _ _ rfl
      have g10 := hf 10 _ _ rfl
      clear hf
      obtain ⟨-, cs9, b9, r9⟩ := g9
      obtain ⟨-, cs10, b10, r10⟩ := g10
      injection r10 with r10
      subst r10
      go_wp2_with fail
      exact rs_end2 b9 b10 r9 (rs_below T4.out hE) (mtSteps_done hlong (by omega) HWW.out) HDS.out.symm rfl (by rw [HQ.out]) rfl rfl rfl rfl rfl rfl rfl
    · apply And.intro
      · repeat (first
          | exact trivial
          | (refine ⟨okIs _ _ _ _, ?_⟩)
          | (refine ⟨⟨VRd.stays _, fun p hp _ _ => VRd.pstays _ (by simp only [List.mem_cons, List.not_mem_nil, or_false] at hp; rcases hp with rfl | rfl <;> simp [rdKs])⟩, ?_⟩)
          | (refine ⟨⟨HasV.stays (VRd.stays _), fun p hp hj _ => HasV.pstays (by simp only [List.mem_cons, List.not_mem_nil, or_false] at hp; rcases hp with rfl | rfl <;> first | (simp at hj; done) | (simp; done)) (VRd.pstays _ (by simp only [List.mem_cons, List.not_mem_nil, or_false] at hp; rcases hp with rfl | rfl <;> simp [rdKs]))⟩, ?_⟩)
          | (refine ⟨⟨HasV.stays (Stays.is _), fun p hp hj _ => HasV.pstays (by simp only [List.mem_cons, List.not_mem_nil, or_false] at hp; rcases hp with rfl | rfl <;> first | (simp at hj; done) | (simp; done)) (Is.pstays _ p)⟩, ?_⟩)
          )
      · rfl
end Go.Proofs.YtpmndmgfoiagnaaDoor

namespace Go.Proofs.YtpmndmgfoiagnaaDoor
open Go Go.RowKit
set_option linter.unusedVariables false

set_option maxHeartbeats 1000000 in
theorem rdnew_bad0 (n : Int) (w : World) (h : n < 1 ∨ 65536 < n) :
    Calls Tryd.prog 16 #[.int .i64 n] w fun e w' => e = .returned (.tuple #[.agg #[.int .i64 0, .int .i64 0, .slice none 0 0, .slice none 0 0, .slice none 0 0], .int .i64 60]) ∧ Below w.heap.size w w' := by
  rcases Decidable.em (n < 1) with h0 | h0
  case' inl => have hx := h0
  case' inr => have hx : 65536 < n := h.resolve_left h0
  all_goals
    clear h
    go_enter Tryd.func16, Tryd.ntmps16
    go_wp2_with fail
    exact bodyPost_ret (results_cell2 rfl _ _ w.heap.size rfl (Blk.new _ _ _) rdiskTy) rfl ⟨rfl, (Below.refl w.heap.size w).alloc (Nat.le_refl _) (.cells #[.int .i64 0, .int .i64 0, .slice none 0 0, .slice none 0 0, .slice none 0 0] 49)⟩

theorem Mtp.same {ks : List (Option TypeId)} {h h' : Zn} {w w' : World} {D : Dsk} {g : Nat} {a : Int} {num : Nat} {last : Int} (s : Mtp h g w h' w') (d : Dk w h D) (m : Mk w g h a num last) (hk : some 65 ∉ ks) (h0 : none ∉ ks) (hp : some 84 ∉ ks) (hm : some 70 ∉ ks) : SameK ks w w' := fun b t ht hb =>
  s.turn.block b (kind_lt hb) fun e => by
    rcases e with e | rfl
    · rcases d.kinds e with h3 | h3 | h3
      · exact SameK.not h3 hk hb ht
      · exact SameK.not h3 h0 hb ht
      · exact SameK.not h3 hp hb ht
    · exact SameK.not (kind_blk m.blk) hm hb ht
theorem Mk.same {w w' : World} {g : Nat} {h : Zn} {a : Int} {num : Nat} {last : Int} (m : Mk w g h a num last) (s : SameK [some 70] w w') : Mk w' g h a num last := ⟨m.blk.sameK s (by decide)⟩
theorem RDd.limited {w : World} {a b v1 v2 v3 : Value} {D : Dsk} (h : RDd w (.agg #[a, b, v1, v2, v3]) D) (n : Int) : RDd w (.agg #[a, .int .i64 n, v1, v2, v3]) { D with limit := n } := by
  obtain ⟨R, ⟨u1, u2, u3, he, h1, h2, h3⟩, hi⟩ := h
  injection he with he
  have := congrArg Array.toList he
  simp only [List.cons.injEq] at this
  obtain ⟨rfl, rfl, rfl, rfl, rfl, -⟩ := this
  exact ⟨{ R with limit := n }, ⟨v1, v2, v3, rfl, h1, h2, h3⟩, ⟨hi.size, rfl, hi.view, hi.ground, hi.pend⟩⟩

/-- The law's state: the program's disk D at h, its page at gm, the document's disk E at g9, its page at g14. -/
structure Mx (w W : World) (h : Zn) (D : Dsk) (gm : Nat) (a : Int) (num : Nat) (last : Int) (g9 : Nat) (cs : Array Value) (E : Dsk) (g14 : Nat) (rl : Int) (num' : Nat) : Prop where
  dp : Dp w W h D
  page : Mk W gm h a num last
  gm0 : w.heap.size ≤ gm
  n : Blk W g9 49 cs
  rd : RDd W (.agg cs) E
  n0 : w.heap.size ≤ g9
  k : Blk W g14 53 #[.int .i64 a, .int .i64 rl, .int .u64 (num' : Int)]
  k0 : w.heap.size ≤ g14
section
variable {w W W' : World} {h h' : Zn} {D D' E E' : Dsk} {gm gm' : Nat} {a : Int} {num num2 num' num3 : Nat} {last last2 rl rl' : Int} {g9 g14 : Nat} {cs cs' : Array Value}
theorem Mx.later (m : Mx w W h D gm a num last g9 cs E g14 rl num') (hb : Below W.heap.size W W') : Mx w W' h D gm a num last g9 cs E g14 rl num' :=
  ⟨m.dp.later hb, m.page.later hb, m.gm0, m.n.later hb, m.rd.later hb, m.n0, m.k.later hb, m.k0⟩
theorem Mx.alloc (m : Mx w W h D gm a num last g9 cs E g14 rl num') (o : Obj) : Mx w (W.alloc o) h D gm a num last g9 cs E g14 rl num' := m.later ((Below.refl _ _).alloc (Nat.le_refl _) o)
theorem Mx.stp (m : Mx w W h D gm a num last g9 cs E g14 rl num') (s : Stp h W h' W') (k : Dk W' h' D') : Mx w W' h' D' gm a num last g9 cs E g14 rl num' :=
  ⟨m.dp.stp s k, m.page.stp m.dp.dk s, m.gm0, s.blk m.dp.dk m.n (by decide) (by decide), m.rd.same (s.same m.dp.dk (by decide) (by decide) (by decide)), m.n0, s.blk m.dp.dk m.k (by decide) (by decide), m.k0⟩
theorem Mx.mtp (m : Mx w W h D gm a num last g9 cs E g14 rl num') (s : Mtp h gm W h' W') (k : Dk W' h' D') (p : Mk W' gm h' a num2 last2) : Mx w W' h' D' gm a num2 last2 g9 cs E g14 rl num' :=
  ⟨m.dp.mtp m.gm0 s k, p, m.gm0, s.else m.dp.dk m.page m.n (by decide) (by decide) (by decide), m.rd.same (s.same m.dp.dk m.page (by decide) (by decide) (by decide) (by decide)), m.n0, s.else m.dp.dk m.page m.k (by decide) (by decide) (by decide), m.k0⟩
/-- Blocks of the document's kinds alone turned, since w. -/
theorem Mx.turn (m : Mx w W h D gm a num last g9 cs E g14 rl num') (hs : SameK (some 70 :: dkKs) W W') (hb : Below w.heap.size w W') (n : Blk W' g9 49 cs') (rd : RDd W' (.agg cs') E') (k : Blk W' g14 53 #[.int .i64 a, .int .i64 rl', .int .u64 (num3 : Int)]) :
    Mx w W' h D gm a num last g9 cs' E' g14 rl' num3 :=
  ⟨⟨m.dp.dk.same (hs.less (by decide)), m.dp.new, hb⟩, m.page.same (hs.less (by decide)), m.gm0, n, rd, m.n0, k, m.k0⟩
theorem Mx.ne (m : Mx w W h D gm a num last g9 cs E g14 rl num') : g9 ≠ g14 := m.n.ne m.k (by decide)
theorem Mx.limited {v0 v1 v2 v3 v4 : Value} (m : Mx w W h D gm a num last g9 #[v0, v1, v2, v3, v4] E g14 rl num') (n : Int) : Mx w (W.setCell ⟨g9, 1, none⟩ (.int .i64 n)) h D gm a num last g9 #[v0, .int .i64 n, v2, v3, v4] { E with limit := n } g14 rl num' := by
  have hs : ∀ {ks : List (Option TypeId)}, some 49 ∉ ks → SameK ks W (W.setCell ⟨g9, 1, none⟩ (.int .i64 n)) := fun hk => SameK.setCell (p := ⟨g9, 1, none⟩) m.n hk _
  exact m.turn (hs (by decide)) (m.dp.below.setCell m.n0 _) (m.n.put 1 _) ((m.rd.limited n).same (hs (by decide))) (m.k.sameK (hs (ks := [some 53]) (by decide)) (by decide))
theorem Mx.putN {v0 v1 v2 v3 v4 : Value} (m : Mx w W h D gm a num last g9 #[v0, v1, v2, v3, v4] E g14 rl num') {x y z u v : Value} (rd : RDd W (.agg #[x, y, z, u, v]) E') :
    Mx w (((((W.setCell ⟨g9, 0, none⟩ x).setCell ⟨g9, 1, none⟩ y).setCell ⟨g9, 2, none⟩ z).setCell ⟨g9, 3, none⟩ u).setCell ⟨g9, 4, none⟩ v) h D gm a num last g9 #[x, y, z, u, v] E' g14 rl num' := by
  have hs : ∀ {ks : List (Option TypeId)}, some 49 ∉ ks → SameK ks W (((((W.setCell ⟨g9, 0, none⟩ x).setCell ⟨g9, 1, none⟩ y).setCell ⟨g9, 2, none⟩ z).setCell ⟨g9, 3, none⟩ u).setCell ⟨g9, 4, none⟩ v) := fun hk => SameK.puts5 m.n hk _ _ _ _ _
  exact m.turn (hs (by decide)) (below_put5 m.dp.below m.n0 _ _ _ _ _) (m.n.put5 x y z u v) (rd.same (hs (by decide))) (m.k.sameK (hs (ks := [some 53]) (by decide)) (by decide))
theorem Mx.putK (m : Mx w W h D gm a num last g9 cs E g14 rl num') (rl' : Int) (num3 : Nat) :
    Mx w (((W.setCell ⟨g14, 0, none⟩ (.int .i64 a)).setCell ⟨g14, 1, none⟩ (.int .i64 rl')).setCell ⟨g14, 2, none⟩ (.int .u64 (num3 : Int))) h D gm a num last g9 cs E g14 rl' num3 := by
  have hs : ∀ {ks : List (Option TypeId)}, some 53 ∉ ks → SameK ks W (((W.setCell ⟨g14, 0, none⟩ (.int .i64 a)).setCell ⟨g14, 1, none⟩ (.int .i64 rl')).setCell ⟨g14, 2, none⟩ (.int .u64 (num3 : Int))) := fun hk => SameK.puts3 m.k hk _ _ _
  exact m.turn (hs (by decide)) (below_puts3 m.dp.below m.k0 _ _ _) (m.n.sameK (hs (ks := [some 49]) (by decide)) (by decide)) (m.rd.same (hs (by decide))) (m.k.puts3 _ _ _)
/-- The document's two are put anew by a statement that draws its order. -/
theorem Mx.both (m : Mx w W h D gm a num last g9 cs E g14 rl num') (hk : Kept (ptE [⟨2, g9, 49, 0, 5⟩, ⟨3, g14, 53, 0, 3⟩]) W W') (rd : RDd W (.agg cs') E') (n : Blk W' g9 49 cs') (k : Blk W' g14 53 #[.int .i64 a, .int .i64 rl', .int .u64 (num3 : Int)]) :
    Mx w W' h D gm a num last g9 cs' E' g14 rl' num3 := by
  have hs : ∀ {ks : List (Option TypeId)}, some 49 ∉ ks → some 53 ∉ ks → SameK ks W W' := fun h1 h2 => SameK.kept hk fun b j e => by
    obtain ⟨p, hp, e1, _⟩ := e
    simp only [List.mem_cons, List.not_mem_nil, or_false] at hp
    rcases hp with rfl | rfl <;> simp only at e1 <;> subst e1
    · exact ⟨_, kind_blk m.n, h1⟩
    · exact ⟨_, kind_blk m.k, h2⟩
  refine m.turn (hs (by decide) (by decide)) ?_ n (rd.same (hs (by decide) (by decide))) k
  exact m.dp.below.trans (hk.below m.dp.below.size fun b j e => by
    obtain ⟨p, hp, e1, _⟩ := e
    simp only [List.mem_cons, List.not_mem_nil, or_false] at hp
    have := m.n0
    have := m.k0
    rcases hp with rfl | rfl <;> simp only at e1 <;> omega)
theorem Mx.paged (m : Mx w W h D gm a num last g9 cs E g14 rl num') (p : Mk W gm' h a num2 last2) (hg : w.heap.size ≤ gm') : Mx w W h D gm' a num2 last2 g9 cs E g14 rl num' := ⟨m.dp, p, hg, m.n, m.rd, m.n0, m.k, m.k0⟩
/-- What the numbers are. -/
structure MxP (D : Dsk) (num : Nat) (last rl : Int) (i : Nat) : Prop where
  ok : D.Ok
  pend : D.pend.length ≤ 2 * i
  num : num < U64
  l0 : 0 ≤ last
  l1 : last ≤ 1
  rl : 1 - last = if rl = 0 then 1 else 0
theorem MxP.steps {i : Nat} (p : MxP D num last rl i) (a : Int) (body : List UInt8) (k : Int) :
    MxP (mtSteps D a num last body k).D (mtSteps D a num last body k).num (mtSteps D a num last body k).last (if (mtSteps D a num last body k).done then (mtSteps D a num last body k).last else rl) (i + 1) := by
  have hp := p.pend
  have f1 : (D.free (a + (1 - last))).pend.length ≤ D.pend.length + 1 := free_pend _ _
  have f2 : ((D.free (a + (1 - last))).sync).pend.length = 0 := rfl
  have f3 := write_pend ((D.free (a + (1 - last))).sync) (a + (1 - last)) (recB ((num + 1) % U64) body)
  have o1 := p.ok.free (a + (1 - last))
  have hl0 := p.l0
  have hl1 := p.l1
  have hmod : (num + 1) % U64 < U64 := Nat.mod_lt _ (by unfold U64; omega)
  unfold mtSteps
  split
  · exact ⟨p.ok, by simp only; omega, p.num, p.l0, p.l1, by simpa using p.rl⟩
  · split
    · exact ⟨p.ok, by simp only; omega, p.num, p.l0, p.l1, by simpa using p.rl⟩
    · split
      · exact ⟨o1, by simp only; omega, p.num, p.l0, p.l1, by simpa using p.rl⟩
      · split
        · exact ⟨o1.sync, by simp only; omega, p.num, p.l0, p.l1, by simpa using p.rl⟩
        · split
          · exact ⟨o1.sync, by simp only; omega, p.num, p.l0, p.l1, by simpa using p.rl⟩
          · split
            · exact ⟨o1.sync.write _ _, by simp only; omega, p.num, p.l0, p.l1, by simpa using p.rl⟩
            · refine ⟨(o1.sync.write _ _).sync, ?_, hmod, ?_, ?_, ?_⟩
              · show 0 ≤ _
                omega
              · simp only; omega
              · simp only; omega
              · simp only [if_true]
                have h2 : last = 0 ∨ last = 1 := by omega
                rcases h2 with rfl | rfl <;> simp
theorem recGet_lt {l : List UInt8} {q : Nat} {t : List UInt8} {n : Nat} (h : recGet l = some ((q, t), n)) : q < U64 := by
  unfold recGet at h
  split at h
  · cases h
  · split at h
    · cases h
    · rename_i f hf
      have := (rdNum_le f (e := 0) (by omega)).1
      split at h
      · simp only [Option.some.injEq, Prod.mk.injEq] at h
        rw [← h.1.1]
        exact this
      · cases h
theorem tellsO_lt {o : Option (List UInt8)} {q : Nat} {t : List UInt8} (h : tellsO o = some (q, t)) : q < U64 := by
  cases o with
  | none => cases h
  | some s =>
    have h : tellsB s = some (q, t) := h
    unfold tellsB at h
    split at h
    · rename_i q' t' n hg
      split at h
      · simp only [Option.some.injEq, Prod.mk.injEq] at h
        rw [← h.1]
        exact recGet_lt hg
      · cases h
    · cases h
theorem mtStep_facts (f : SF) (a : Int) (x : Nat × Int × List UInt8) (i : Int) (h : x.1 < U64 ∧ 0 ≤ x.2.1 ∧ x.2.1 ≤ 1 ∧ (x.1 = 0 → x.2.1 = 1)) (h0 : 0 ≤ i) (h1 : i ≤ 1) :
    (mtStep f a x i).1 < U64 ∧ 0 ≤ (mtStep f a x i).2.1 ∧ (mtStep f a x i).2.1 ≤ 1 ∧ ((mtStep f a x i).1 = 0 → (mtStep f a x i).2.1 = 1) := by
  rw [mtStep_eq]
  cases ht : tellsO (f (a + i)) with
  | none => exact h
  | some p =>
    obtain ⟨q, t⟩ := p
    simp only
    split
    · exact ⟨tellsO_lt ht, h0, h1, fun h => by have := tellsO_pos ht; simp only at h; omega⟩
    · exact h
theorem MxP.opened {D : Dsk} {i : Nat} (hok : D.Ok) (hp : D.pend.length ≤ 2 * i) (a : Int) : MxP D (mtOpen D.view a).1 (mtOpen D.view a).2.1 (rLast (mtOpen D.view a)) i := by
  have h := mtStep_facts D.view a _ 1 (mtStep_facts D.view a (0, 1, []) 0 (by simp [U64]) (by omega) (by omega)) (by omega) (by omega)
  change (mtOpen D.view a).1 < U64 ∧ 0 ≤ (mtOpen D.view a).2.1 ∧ (mtOpen D.view a).2.1 ≤ 1 ∧ ((mtOpen D.view a).1 = 0 → (mtOpen D.view a).2.1 = 1) at h
  obtain ⟨h1, h2, h3, h4⟩ := h
  refine ⟨hok, hp, h1, h2, h3, ?_⟩
  unfold rLast
  by_cases h0 : (mtOpen D.view a).1 = 0
  · rw [if_pos h0, h4 h0]; rfl
  · rw [if_neg h0]
    generalize (mtOpen D.view a).2.1 = l at *
    have h5 : l = 0 ∨ l = 1 := by omega
    rcases h5 with rfl | rfl <;> simp
theorem mtErr_ne (x : Nat × Int × List UInt8) : mtErr x = 0 ∨ mtErr x = 121 := by
  unfold mtErr
  split <;> simp
end
end Go.Proofs.YtpmndmgfoiagnaaDoor

namespace Go.Proofs.YtpmndmgfoiagnaaDoor
open Go Go.RowKit
set_option linter.unusedVariables false

theorem Sv.again {w w1 w2 : World} {v : Value} {l : List (Int × Int)} (h : Sv (fun b => b < w.heap.size) w1 v l) (h1 : Below w.heap.size w w1) (h2 : Below w.heap.size w w2) : Sv (fun b => b < w.heap.size) w2 v l :=
  Sl.keep h fun b o hs => World.cell?_of_block ((h2.block b hs).trans (h1.block b hs).symm)

set_option maxHeartbeats 8000000 in
set_option maxRecDepth 100000 in
theorem law_MetaKeeps (v : Value) (xs : List MAct) (w : World) (hb : BitsOk w) (hv : Acts w v xs) :
    Calls Tryd.prog 3 #[v] w fun e w' => e = .returned (.bool true) ∧ Below w.heap.size w w' := by
  obtain ⟨A0, c0, rfl, hmx, hok, hA0⟩ := hv
  have HA := Lib.hid hA0
  have HB := Lib.hid hb
  have HX := Lib.hid hok
  clear hb hA0 hok
  go_enter Tryd.func3, Tryd.ntmps3
  go_wp2_with fail
  refine (dnew_any 20 w (by omega) (by omega)).mono ?_
  rintro e w1 ⟨h, rfl, hd, hnew, hbl⟩
  have D1 : Hid (Dp w w1 h (Dsk.new 20)) := ⟨hd, hnew, hbl⟩
  clear hd hnew hbl
  go_wp2_with fail
  refine (awake12_any _ (HB.out.later D1.out.below)).mono ?_
  rintro e w2 ⟨rfl, hbl⟩
  have D2 := Lib.hid (D1.out.later hbl)
  have MR0 : Hid (Mr (Dsk.new 20) 5 0 1 []) := Mr.start (by omega) (by omega) (by omega) (by omega)
  clear hbl D1
  go_wp2_with fail
  refine (mopen_mp D2.out MR0.out rfl).mono ?_
  rintro e w3 ⟨g, he, hm, -⟩
  rw [if_pos rfl] at he
  subst he
  have M3 := Lib.hid hm
  clear hm
  go_wp2_with fail
  go_loopw [5, 8, 9, 10] (fun mv lv av iv wr => ∃ (i num g : Nat) (last : Int) (body : List UInt8) (D : Dsk) (h' : Zn) (any : Bool), mv = .pointer (some ⟨g, 0, none⟩) ∧ lv = .string (st body) ∧ av = .bool any ∧ iv = .int .i64 (i : Int) ∧ i ≤ xs.length ∧ i ≤ 40 ∧ num ≤ i ∧ Hid (Mp w wr h' D g 5 num last body) ∧ Hid (h'.g = h.g) ∧ Hid (any = true ↔ num ≠ 0)) (fun _ _ _ iv _ => xs.length - (intOf iv).toNat)
  case atStart => exact ⟨0, 0, g, 1, [], _, h, false, rfl, rfl, rfl, rfl, by omega, by omega, by omega, M3, rfl, by simp [Hid]⟩
  case round =>
    clear M3 D2 MR0
    obtain ⟨i, num, g, last, body, D, h', any, rfl, rfl, rfl, rfl, hi, hi40, hni, M, G, HAN⟩ := hrel
    have hsz := M.out.dp.below.size
    by_cases hil4 : i < 40
    case neg =>
      by_cases hil : i < xs.length
      · go_wp2_with fail
        go_ret
        exact ⟨rfl, M.out.dp.below⟩
      · go_wp2_with fail
        go_ret
        exact ⟨rfl, M.out.dp.below⟩
    by_cases hil : i < xs.length
    · obtain ⟨b, o, rfl, hbl, hcell⟩ := HA.out (by omega)
      obtain ⟨k0, k1, k2, k3⟩ := hcell i hil
      have old : ∀ p : Addr, p.block < w.heap.size → wr.cell? p = w.cell? p := fun p hp => M.out.dp.below.cell hp
      have x0 := (old ⟨b, o + i * 4, none⟩ hbl).trans k0
      have x1 := (old ⟨b, o + i * 4 + 1, none⟩ hbl).trans k1
      have x2 := (old ⟨b, o + i * 4 + 2, none⟩ hbl).trans k2
      have x3 := (old ⟨b, o + i * 4 + 3, none⟩ hbl).trans k3
      have hU : Hid (num + 1 < U64) := by rw [Hid]; unfold U64; omega
      have HXI := Lib.hid (HX.out _ (List.getElem_mem hil))
      clear hcell k0 k1 k2 k3 old
      generalize xs[i] = x at *
      go_wp2_with fail
      refine (few12_any w.heap.size x wr (HXI.out.2.2.2.later M.out.dp.below) hsz).mono ?_
      rintro e w4 ⟨vl, rfl, hsv, hbl4⟩
      obtain ⟨A1, c1, rfl, -⟩ := hsv.at
      have M4 := Lib.hid (M.out.later hbl4)
      have SV := Lib.hid hsv
      have hB4 : w.heap.size ≤ w4.heap.size := M4.out.dp.below.size
      have KI := Lib.hid HXI.out.2.1
      have LI : Hid (∀ y ∈ x.left.take 20, InI y.1 ∧ InI y.2) := fun y hy => HXI.out.2.2.1 y (List.mem_of_mem_take hy)
      have LL : Hid ((x.left.take 20).length ≤ 1000000) := by rw [Hid, List.length_take]; omega
      obtain ⟨kind, steps, body0, left0, v0⟩ := x
      simp only at SV KI LI LL x0 x1 x2 x3 ⊢
      have TL : Hid ((body0.take 600).length ≤ 1099511627776) := by rw [Hid, List.length_take]; omega
      generalize body0.take 600 = t at *
      generalize left0.take 20 = l at *
      clear hsv hbl4 HXI x0 x1 x2 x3
      have M5 := Lib.hid ((M4.out.alloc (.cells #[.int .i64 kind, .int .i64 steps, .string (st t), .slice A1 l.length c1] 33)).alloc (.cells #[.string (st t)] 9))
      have BX := Lib.hid ((Blk.new w4 33 #[.int .i64 kind, .int .i64 steps, .string (st t), .slice A1 l.length c1]).alloc (.cells #[.string (st t)] 9))
      have BS := Lib.hid (Blk.new (w4.alloc (.cells #[.int .i64 kind, .int .i64 steps, .string (st t), .slice A1 l.length c1] 33)) 9 #[.string (st t)])
      go_wp2_with fail
      have hw4 : w4.heap.size + 1 < ((w4.alloc (.cells #[.int .i64 kind, .int .i64 steps, .string (st t), .slice A1 l.length c1] 33)).alloc (.cells #[.string (st t)] 9)).heap.size := by simp
      by_cases hlong : 480 < t.length
      · have MC := Lib.hid ((M5.out.mr.crash (t := []) hU.out (by simp) l 0 (by omega)).resolve_right (fun h => by have := h.1; omega)).2
        refine (msteps_long M5.out (by have := hU.out; omega) hlong HB.out KI.out).mono ?_
        rintro e w6 ⟨rfl, hel, h6, hg6, hm⟩
        have M6 := Lib.hid hm
        have G6 := Lib.hid (hg6.trans G.out)
        have BX6 := Lib.hid (hel BX.out (by decide) (by decide) (by decide))
        have SV6 := Lib.hid (Sv.again (SV.out) M4.out.dp.below M6.out.dp.below)
        clear hm hg6 hel
        have y3 : w6.cell? ⟨w4.heap.size, 3, none⟩ = some (.slice A1 l.length c1) := BX6.out.cell 3
        go_wp2_with fail
        refine (dcrash_dp M6.out.dp M6.out.mr.ok SV6.out LI.out LL.out (by rw [M6.out.mr.pend]; simp) G6.out).mono ?_
        rintro e w7 ⟨rfl, h7, hd, hg7, hs⟩
        have D7 := Lib.hid hd
        have G7 := Lib.hid hg7
        clear hd hg7 hs
        go_wp2_with fail
        refine (mopen_mp D7.out MC.out G7.out).mono ?_
        rintro e w8 ⟨g8, he, hm, -⟩
        have M8 := Lib.hid hm
        clear hm
        cases any with
        | false =>
          have h0 : num = 0 := by
            rcases Nat.eq_zero_or_pos num with h | h
            · exact h
            · have := HAN.out.2 (by omega); cases this
          subst h0
          rw [if_pos rfl] at he
          subst he
          go_wp2_with fail
          go_roundw
          case rel => exact ⟨i + 1, 0, g8, last, body, _, h7, false, rfl, rfl, rfl, by go_num, by omega, by omega, by omega, M8, G7, HAN⟩
          case measure => simp [intOf]; omega
        | true =>
          have h0 : num ≠ 0 := HAN.out.1 rfl
          rw [if_neg h0] at he
          subst he
          go_wp2_with fail
          go_roundw
          case rel => exact ⟨i + 1, num, g8, last, body, _, h7, true, rfl, rfl, rfl, by go_num, by omega, by omega, by omega, M8, G7, ⟨fun _ => h0, fun _ => rfl⟩⟩
          case measure => simp [intOf]; omega
      · have MC := Lib.hid (M5.out.mr.crash (t := t) hU.out (by omega) l (stepI steps) (stepI_le steps))
        have PE := Lib.hid (dAt_pend D (5 + (1 - last)) (recB (num + 1) t) (stepI steps))
        have OK := Lib.hid (dAt_ok M5.out.mr.ok (5 + (1 - last)) (recB (num + 1) t) (stepI steps))
        have P0 := Lib.hid M5.out.mr.pend
        refine (msteps_mp M5.out hU.out (by omega) HB.out KI.out).mono ?_
        rintro e w6 ⟨rfl, hel, h6, hg6, hm⟩
        have M6 := Lib.hid hm
        have G6 := Lib.hid (hg6.trans G.out)
        have BX6 := Lib.hid (hel BX.out (by decide) (by decide) (by decide))
        have BS6 := Lib.hid (hel BS.out (by decide) (by decide) (by decide))
        have SV6 := Lib.hid (Sv.again (SV.out) M4.out.dp.below M6.out.dp.below)
        clear hm hg6 hel
        have y3 : w6.cell? ⟨w4.heap.size, 3, none⟩ = some (.slice A1 l.length c1) := BX6.out.cell 3
        have y2 : w6.cell? ⟨w4.heap.size, 2, none⟩ = some (.string (st t)) := BX6.out.cell 2
        generalize dAt D (5 + (1 - last)) (recB (num + 1) t) (stepI steps) = D6 at *
        have PL : Hid (D6.pend.length ≤ 1000000) := by have := PE.out; rw [P0.out] at this; simp at this; rw [Hid]; omega
        generalize stepI steps = si at *
        by_cases h4 : si = 4
        · subst h4
          have MD := Lib.hid (MC.out.resolve_left (fun h => by have := h.1; omega)).2
          rw [show decide (4 = 4) = true from rfl]
          go_wp2_with fail
          refine (dcrash_dp M6.out.dp OK.out SV6.out LI.out LL.out PL.out G6.out).mono ?_
          rintro e w7 ⟨rfl, h7, hd, hg7, hs⟩
          have D7 := Lib.hid hd
          have G7 := Lib.hid hg7
          clear hd hg7 hs
          go_wp2_with fail
          refine (mopen_mp D7.out MD.out G7.out).mono ?_
          rintro e w8 ⟨g8, he, hm, -⟩
          have M8 := Lib.hid hm
          clear hm
          rw [if_neg (by omega)] at he
          subst he
          go_wp2_with fail
          go_roundw
          case rel => exact ⟨i + 1, num + 1, g8, 1 - last, t, _, h7, true, rfl, rfl, rfl, by go_num, by omega, by omega, by omega, M8, G7, by simp [Hid]⟩
          case measure => simp [intOf]; omega
        · have h4' : decide (si = 4) = false := by simpa using h4
          rw [h4']
          go_wp2_with fail
          refine (dcrash_dp M6.out.dp OK.out SV6.out LI.out LL.out PL.out G6.out).mono ?_
          rintro e w7 ⟨rfl, h7, hd, hg7, hs⟩
          have D7 := Lib.hid hd
          have G7 := Lib.hid hg7
          have BS7 := Lib.hid (hs.blk M6.out.dp.dk BS6.out (by decide) (by decide))
          clear hd hg7 hs
          go_wp2_with fail
          rcases MC.out with ⟨-, hmo⟩ | ⟨-, hmn⟩
          · have MO := Lib.hid hmo
            clear hmo
            refine (mopen_mp D7.out MO.out G7.out).mono ?_
            rintro e w8 ⟨g8, he, hm, -⟩
            have M8 := Lib.hid hm
            clear hm
            cases any with
            | false =>
              have h0 : num = 0 := by
                rcases Nat.eq_zero_or_pos num with h | h
                · exact h
                · have := HAN.out.2 (by omega); cases this
              subst h0
              rw [if_pos rfl] at he
              subst he
              go_wp2_with fail
              go_roundw
              case rel => exact ⟨i + 1, 0, g8, last, body, _, h7, false, rfl, rfl, rfl, by go_num, by omega, by omega, by omega, M8, G7, HAN⟩
              case measure => simp [intOf]; omega
            | true =>
              have h0 : num ≠ 0 := HAN.out.1 rfl
              rw [if_neg h0] at he
              subst he
              go_wp2_with fail
              go_roundw
              case rel => exact ⟨i + 1, num, g8, last, body, _, h7, true, rfl, rfl, rfl, by go_num, by omega, by omega, by omega, M8, G7, ⟨fun _ => h0, fun _ => rfl⟩⟩
              case measure => simp [intOf]; omega
          · have MN := Lib.hid hmn
            clear hmn
            refine (mopen_mp D7.out MN.out G7.out).mono ?_
            rintro e w8 ⟨g8, he, hm, hb8⟩
            have M8 := Lib.hid hm
            have BS8 := Lib.hid (BS7.out.later hb8)
            clear hm hb8
            rw [if_neg (by omega)] at he
            subst he
            have z0 : w8.cell? ⟨w4.heap.size + 1, 0, none⟩ = some (.string (st t)) := by have := BS8.out.cell 0; simpa using this
            cases any with
            | false =>
              go_wp2_with fail
              go_roundw
              case rel => exact ⟨i + 1, num + 1, g8, 1 - last, t, _, h7, true, rfl, rfl, rfl, by go_num, by omega, by omega, by omega, M8, G7, by simp [Hid]⟩
              case measure => simp [intOf]; omega
            | true =>
              by_cases htb : t = body
              · subst htb
                go_wp2_with fail
                go_roundw
                case rel => exact ⟨i + 1, num + 1, g8, 1 - last, t, _, h7, true, rfl, rfl, rfl, by go_num, by omega, by omega, by omega, M8, G7, by simp [Hid]⟩
                case measure => simp [intOf]; omega
              · have hst : ¬ st t = st body := fun h => htb (st_inj h)
                go_wp2_with fail
                go_roundw
                case rel => exact ⟨i + 1, num + 1, g8, 1 - last, t, _, h7, true, rfl, rfl, rfl, by go_num, by omega, by omega, by omega, M8, G7, by simp [Hid]⟩
                case measure => simp [intOf]; omega
    · go_wp2_with fail
      go_ret
      exact ⟨rfl, M.out.dp.below⟩
end Go.Proofs.YtpmndmgfoiagnaaDoor
