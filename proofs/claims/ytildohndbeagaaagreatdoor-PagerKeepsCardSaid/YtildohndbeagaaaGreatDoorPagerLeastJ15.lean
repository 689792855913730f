/- What the proof of PagerLeast needs, part 15. -/
import Derived.Test.YtildohndbeagaaaGreatDoorPagerLeastJ14

namespace Go.Proofs.YtildohndbeagaaaGreatDoor
open Go Go.RowKit
set_option linter.unusedVariables false

open Go.ChangeMaps Go.MapKept in
theorem MpV.clear {P : Program} {k : TypeId} {w : World} {b n : Nat} {f : Int → Option Value} (h : MpV P k w b f n) {t e : TypeId} (ht : P.underlying t = some (.map k e)) (ty : TypeId) :
    ∃ w', (Builtin.clear_ #[t] ty #[.map (some b)]).run P w = .ok (.tuple #[]) w' ∧ MpV P k w' b (fun _ => none) 0 ∧ w.mapTurned w' b := by
  obtain ⟨D, ⟨es, clock, hb, F, hs, hD⟩, h2, h3⟩ := h
  refine ⟨setBlock w b (.map #[] clock), ?_, ⟨.map [], ⟨#[], clock, heap_setBlock_same hb _, ⟨by simp, stamped_empty clock, by simp⟩, Nat.le_refl _, rfl⟩, rfl, fun a _ => ⟨rfl, fun v h => by cases h⟩⟩, ⟨es, clock, #[], clock, hb, rfl⟩⟩
  simp [Builtin.clear_, run_underlying ht, MapKept.run_getObj_map hb, MapKept.run_setObj_map _ hb, setBlock]

section
variable {w w' : World} {b : Nat} {t : TF} {f : SF} {g : Int → Bool}
theorem Wrt.clear (h : Wrt w b f) (ty : TypeId) : ∃ w', (Builtin.clear_ #[71] ty #[.map (some b)]).run Tryz.prog w = .ok (.tuple #[]) w' ∧ Wrt w' b (fun _ => none) ∧ w.mapTurned w' b := by
  obtain ⟨m, hm, hr⟩ := h.mp
  obtain ⟨w', h1, h2, h3⟩ := hm.clear wrTy ty
  exact ⟨w', h1, ⟨fun x h => (by cases h), ⟨fun _ => none, by rw [ids_none]; exact h2, fun _ _ => trivial⟩⟩, h3⟩
theorem Gon.clear (h : Gon w b g) (ty : TypeId) : ∃ w', (Builtin.clear_ #[78] ty #[.map (some b)]).run Tryz.prog w = .ok (.tuple #[]) w' ∧ Gon w' b (fun _ => false) ∧ w.mapTurned w' b := by
  obtain ⟨w', h1, h2, h3⟩ := h.mp.clear gnTy ty
  refine ⟨w', h1, ⟨?_, ?_⟩, h3⟩ <;> rw [gnV_no]
  · exact fun x h => (by cases h)
  · rw [ids_none]; exact h2
/-- Another map turned. -/
theorem Tbl.map (h : Tbl w b t) {z : Nat} (hz : b ≠ z) (hg : w.mapTurned w' z) : Tbl w' b t := ⟨h.in90, h.mp.other hz hg.grown⟩
theorem Gon.map (h : Gon w b g) {z : Nat} (hz : b ≠ z) (hg : w.mapTurned w' z) : Gon w' b g := ⟨h.in90, h.mp.other hz hg.grown⟩
theorem Wrt.map (h : Wrt w b f) {z : Nat} (hz : b ≠ z) (hk : kindAt w z = some none) (hg : w.mapTurned w' z) : Wrt w' b f := ⟨h.in90, h.mp.other hz (by rw [hk]; simp) hg.grown⟩
theorem Turn.of_map {F : Nat → Prop} {z : Nat} (h : w.mapTurned w' z) (hF : F z) : Turn F w w' := Turn.of_grown h.grown fun y hy => by injection hy with hy; rw [← hy]; exact hF
/-- A map that is none of the disk's turned. -/
theorem Dk.map {h : Zn} {D : Dsk} (d : Dk w h D) {z : Nat} (hz : ¬ h.has z) (hk : kindAt w z = some none) (hg : w.mapTurned w' z) : Dk w' h D := by
  have hne : ∀ b, h.has b → b ≠ z := fun b hb e => hz (by rw [← e]; exact hb)
  have hub : ∀ v l, Ub w 0 v l → Ub w' 0 v l := fun v l h => h.other (by rw [hk]; simp) hg.grown
  have hblk : ∀ {g : Nat} {t : TypeId} {cs : Array Value}, Blk w g t cs → Blk w' g t cs := fun {g t cs} hb => hb.grown hg.grown fun e => by
    injection e with e
    subst e
    have := kind_blk hb
    rw [hk] at this
    cases this
  have hsec : ∀ {b n : Nat} {f : SF}, Secs w b f n → h.has b → Secs w' b f n := fun {b n f} hs hb => by
    obtain ⟨m, hm, hr⟩ := hs
    exact ⟨m, hm.other (hne b hb) hg.grown, fun x hx => (hr x hx).keep hub⟩
  obtain ⟨vs, ho, hp⟩ := d.pend
  refine ⟨hblk d.blk, hsec d.view (.inr (.inl rfl)), hsec d.ground (.inr (.inr (.inl rfl))), d.ne, vs, ho.other (fun e => hz (.inr (.inr (.inr e)))) hg.grown, hp.keep fun v p hv => ?_⟩
  cases p with
  | wr a b =>
    obtain ⟨ga, A, c, h1, h3, h4, h5⟩ := hv
    exact ⟨ga, A, c, h1, hblk h3, hblk h4, hub _ _ h5⟩
  | fr a =>
    obtain ⟨ga, h1, h3⟩ := hv
    exact ⟨ga, h1, hblk h3⟩
theorem Blk.map {g : Nat} {t : TypeId} {cs : Array Value} (h : Blk w g t cs) {z : Nat} (hk : kindAt w z = some none) (hg : w.mapTurned w' z) : Blk w' g t cs := h.grown hg.grown fun e => by
  injection e with e
  subst e
  have := kind_blk h
  rw [hk] at this
  cases this
end
section
variable {w w' : World} {Z : Pz} {P : Pgr}
theorem Pg.putW (p : Pg w Z P) {f : SF} (h : Wrt w' Z.bw f) (hg : w.mapTurned w' Z.bw) : Pg w' Z { P with wr := f } ∧ Ptp Z w Z w' :=
  ⟨⟨p.dk.map p.m2 p.wr.kind hg, ⟨p.mt.blk.map p.wr.kind hg⟩, p.blk.map p.wr.kind hg, p.tb.map p.n1 hg, h, p.gn.map (Ne.symm p.n3) hg, p.n1, p.n2, p.n3, p.m1, p.m2, p.m3⟩, ⟨rfl, rfl, Turn.of_map hg (.inr (.inr (.inr (.inl rfl)))), fun b hb => .inl hb⟩⟩
theorem Pg.putG (p : Pg w Z P) {f : Int → Bool} (h : Gon w' Z.bg f) (hg : w.mapTurned w' Z.bg) : Pg w' Z { P with gn := f } ∧ Ptp Z w Z w' :=
  ⟨⟨p.dk.map p.m3 p.gn.kind hg, ⟨p.mt.blk.map p.gn.kind hg⟩, p.blk.map p.gn.kind hg, p.tb.map p.n2 hg, p.wr.map p.n3 p.gn.kind hg, h, p.n1, p.n2, p.n3, p.m1, p.m2, p.m3⟩, ⟨rfl, rfl, Turn.of_map hg (.inr (.inr (.inr (.inr (.inl rfl))))), fun b hb => .inl hb⟩⟩
end

set_option maxHeartbeats 4000000 in
/-- Whether a page is there. -/
theorem phas_any (Z : Pz) (P : Pgr) (x : Int) (w : World) (hp : Pg w Z P) (hx : InI x) :
    Calls Tryz.prog 34 #[.pointer (some ⟨Z.g, 0, none⟩), .int .i64 x] w fun e w' => e = .returned (.bool (P.has x)) ∧ Below w.heap.size w w' := by
  obtain ⟨m, hm, hr⟩ := hp.wr.mp
  have l1 := hm.look intTy wrTy (nilBytes w) hx
  rw [(hr x hx).some_iff] at l1
  have l2 := hp.gn.mp.look intTy gnTy (zeroIn w) hx
  rw [gnV_some] at l2
  have l3 := hp.tb.mp.look intTy tbTy (zeroPl w) hx
  rw [tbV_get, tbV_some] at l3
  unfold plV at l3
  have d5 : w.cell? ⟨Z.g, 5, none⟩ = some (.map (some Z.bt)) := hp.blk.cell 5
  have d6 : w.cell? ⟨Z.g, 6, none⟩ = some (.map (some Z.bw)) := hp.blk.cell 6
  have d7 : w.cell? ⟨Z.g, 7, none⟩ = some (.map (some Z.bg)) := hp.blk.cell 7
  unfold Pgr.has
  generalize (m x).getD (.slice none 0 0) = v1 at *
  generalize (gnV P.gn x).getD (.int .i64 0) = v2 at *
  generalize (P.tb x).getD (0, 0) = pl at *
  generalize (P.wr x).isSome = bw at *
  generalize (P.tb x).isSome = bt at *
  generalize P.gn x = bg at *
  clear hm hr hp hx
  have q := (Below.refl w.heap.size w).alloc (Nat.le_refl _) (.cells #[.int .i64 (pl.1 : Int), .int .i64 (pl.2 : Int)] 108)
  cases bw <;> cases bt <;> cases bg
  all_goals
    go_enter Tryz.func34, Tryz.ntmps34
    go_wp2_with fail
    go_ret
    exact ⟨rfl, q⟩
set_option maxHeartbeats 1000000 in
theorem ptag_any (Z : Pz) (P : Pgr) (w : World) (hp : Pg w Z P) :
    Calls Tryz.prog 17 #[.pointer (some ⟨Z.g, 0, none⟩)] w fun e w' => e = .returned (.int .u64 (P.tag : Int)) ∧ w = w' := by
  have d4 : w.cell? ⟨Z.g, 4, none⟩ = some (.int .u64 (P.tag : Int)) := hp.blk.cell 4
  clear hp
  go_enter Tryz.func17, Tryz.ntmps17
  go_wp2_with fail
  go_ret
  exact ⟨rfl, rfl⟩
set_option maxHeartbeats 1000000 in
theorem psector_any (Z : Pz) (P : Pgr) (p : Nat) (w : World) (hp : Pg w Z P) (h0 : 0 ≤ P.a) (h1 : P.a ≤ 65536) (h2 : p ≤ 65536) :
    Calls Tryz.prog 45 #[.pointer (some ⟨Z.g, 0, none⟩), .int .i64 (p : Int)] w fun e w' => e = .returned (.int .i64 (secAt P.a p)) ∧ w = w' := by
  have d2 : w.cell? ⟨Z.g, 2, none⟩ = some (.int .i64 P.a) := hp.blk.cell 2
  clear hp
  unfold secAt
  go_enter Tryz.func45, Tryz.ntmps45
  go_wp2_with fail
  go_ret
  exact ⟨by go_num, rfl⟩

def PgDone (Z : Pz) (P' : Pgr) (w w' : World) : Prop := Pg w' Z P' ∧ Ptp Z w Z w'
set_option maxHeartbeats 1000000 in
theorem pdrop_any (Z : Pz) (P : Pgr) (w : World) (hp : Pg w Z P) :
    Calls Tryz.prog 39 #[.pointer (some ⟨Z.g, 0, none⟩)] w fun e w' => e = .returned (.tuple #[]) ∧ PgDone Z P.drop w w' := by
  have d6 : w.cell? ⟨Z.g, 6, none⟩ = some (.map (some Z.bw)) := hp.blk.cell 6
  obtain ⟨w1, r1, h1, t1⟩ := hp.wr.clear 0
  obtain ⟨p1, s1⟩ := hp.putW h1 t1
  have d7 : w1.cell? ⟨Z.g, 7, none⟩ = some (.map (some Z.bg)) := p1.blk.cell 7
  obtain ⟨w2, r2, h2, t2⟩ := p1.gn.clear 0
  obtain ⟨p2, s2⟩ := p1.putG h2 t2
  have HP := Lib.hid p2
  have HS := Lib.hid (s1.trans s2)
  clear hp h1 t1 p1 s1 h2 t2 p2 s2
  go_enter Tryz.func39, Tryz.ntmps39
  go_wp2_with fail
  go_end0
  exact ⟨rfl, HP.out, HS.out⟩
set_option maxHeartbeats 2000000 in
theorem pfree_any (Z : Pz) (P : Pgr) (x : Int) (w : World) (hp : Pg w Z P) (hx : InI x) :
    Calls Tryz.prog 37 #[.pointer (some ⟨Z.g, 0, none⟩), .int .i64 x] w fun e w' => e = .returned (.int .i64 (if P.has x then 0 else 131)) ∧ PgDone Z (P.free x) w w' := by
  have HP := Lib.hid hp
  have HX := Lib.hid hx
  clear hp hx
  by_cases hh : P.has x = true
  · have e2 : P.free x = { P with wr := P.wr.del x, gn := gnPut P.gn x true } := by unfold Pgr.free; rw [if_pos hh]
    rw [e2, if_pos hh]
    go_enter Tryz.func37, Tryz.ntmps37
    go_wp2_with fail
    refine (phas_any Z P x w HP.out HX.out).mono ?_
    rintro e w0 ⟨rfl, q0⟩
    rw [hh]
    have hin : 0 ≤ x ∧ x < 90 := by
      unfold Pgr.has at hh
      rw [Bool.or_eq_true, Bool.and_eq_true] at hh
      rcases hh with h | ⟨h, _⟩
      · exact HP.out.wr.in90 x h
      · exact HP.out.tb.in90 x h
    have p0 := HP.out.later q0
    have d6 : w0.cell? ⟨Z.g, 6, none⟩ = some (.map (some Z.bw)) := p0.blk.cell 6
    obtain ⟨w1, r1, h1, t1⟩ := p0.wr.del HX.out 0
    obtain ⟨p1, s1⟩ := p0.putW h1 t1
    have d7 : w1.cell? ⟨Z.g, 7, none⟩ = some (.map (some Z.bg)) := p1.blk.cell 7
    obtain ⟨w2, r2, h2, t2⟩ := p1.gn.put hin.1 hin.2
    obtain ⟨p2, s2⟩ := p1.putG h2 t2
    have HP2 := Lib.hid p2
    have HS := Lib.hid (((Ptp.below (Z := Z) q0).trans s1).trans s2)
    clear h1 t1 p1 s1 h2 t2 p2 s2 q0 p0 hin hh e2
    go_wp2_with fail
    go_ret
    exact ⟨rfl, HP2.out, HS.out⟩
  · have hh : P.has x = false := by simpa using hh
    have e2 : P.free x = P := by unfold Pgr.free; rw [hh]; rfl
    rw [e2, hh]
    go_enter Tryz.func37, Tryz.ntmps37
    go_wp2_with fail
    refine (phas_any Z P x w HP.out HX.out).mono ?_
    rintro e w0 ⟨rfl, q0⟩
    rw [hh]
    go_wp2_with fail
    go_ret
    exact ⟨rfl, HP.out.later q0, Ptp.below q0⟩
end Go.Proofs.YtildohndbeagaaaGreatDoor
