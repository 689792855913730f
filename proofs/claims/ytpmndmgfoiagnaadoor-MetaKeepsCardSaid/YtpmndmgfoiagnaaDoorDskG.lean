/- The disk: Sync, Used, Limit, Pending. -/
import Derived.Test.YtpmndmgfoiagnaaDoorDskF
namespace Go.Proofs.YtpmndmgfoiagnaaDoor
open Go Go.RowKit
set_option linter.unusedVariables false

/-- Only the disk's own block has turned: the rest reads as it did. -/
theorem Dk.parts {w w' : World} {h : Zn} {D : Dsk} (d : Dk w h D) (hg : w.grownBy w' (some h.g)) : Secs w' h.bv D.view D.nv ∧ Secs w' h.bg D.ground D.ng ∧ ∃ vs, Ow 84 w' 0 h.pv vs ∧ PnL w' vs D.pend := by
  have kd := kind_blk d.blk
  obtain ⟨vs, h1, h2⟩ := d.pend
  refine ⟨d.view.other (fun e => ?_) (by rw [kd]; decide) hg, d.ground.other (fun e => ?_) (by rw [kd]; decide) hg, vs, h1.other (fun e => ?_) hg, h2.keep fun v p hp => hp.other (fun t ht => ?_) hg⟩
  · have := d.view.kind; rw [e, kd] at this; cases this
  · have := d.ground.kind; rw [e, kd] at this; cases this
  · have := kind_own h1 e; rw [kd] at this; revert this; decide
  · rw [kd]; revert ht; simp only [pnKinds, List.mem_cons, List.not_mem_nil, or_false]; rintro (rfl | rfl | rfl) <;> decide

set_option maxHeartbeats 1000000 in
theorem dused_any (h : Zn) (D : Dsk) (w : World) (hd : Dk w h D) :
    Calls Tryd.prog 14 #[.pointer (some ⟨h.g, 0, none⟩)] w fun e w' => e = .returned (.int .i64 (D.nv : Int)) ∧ w = w' := by
  have hd2 : w.cell? ⟨h.g, 2, none⟩ = some (.map (some h.bv)) := hd.blk.cell 2
  have hln := fun ty => hd.len 0 ty
  simp only [World.drewN_zero] at hln
  clear hd
  go_enter Tryd.func14, Tryd.ntmps14
  go_wp2_with fail
  go_ret
  exact ⟨rfl, rfl⟩
set_option maxHeartbeats 1000000 in
theorem dpending_any (h : Zn) (D : Dsk) (w : World) (hd : Dk w h D) :
    Calls Tryd.prog 15 #[.pointer (some ⟨h.g, 0, none⟩)] w fun e w' => e = .returned (.int .i64 (D.pend.length : Int)) ∧ w = w' := by
  obtain ⟨g, bv, bg, sl⟩ := h
  obtain ⟨vs, hown, hpl⟩ := hd.pend
  obtain ⟨A0, c0, hsl, _⟩ := Ow.shape hown
  simp only at hsl
  subst hsl
  have hd4 : w.cell? ⟨g, 4, none⟩ = some (.slice A0 vs.length c0) := hd.blk.cell 4
  have HL := Lib.hid hpl.1
  clear hd hown hpl
  go_enter Tryd.func15, Tryd.ntmps15
  go_wp2_with fail
  go_ret
  exact ⟨by rw [← HL.out]; rfl, rfl⟩
set_option maxHeartbeats 1000000 in
theorem dlimit_any (h : Zn) (D : Dsk) (n : Int) (w : World) (hd : Dk w h D) :
    Calls Tryd.prog 18 #[.pointer (some ⟨h.g, 0, none⟩), .int .i64 n] w fun e w' => e = .returned (.tuple #[]) ∧ Dk w' h { D with limit := n } ∧ Stp h w h w' := by
  have hd1 : w.cell? ⟨h.g, 1, none⟩ = some (.int .i64 D.limit) := hd.blk.cell 1
  have hf1 := hd.blk.free 1
  have HD := Lib.hid hd
  clear hd
  go_enter Tryd.func18, Tryd.ntmps18
  go_wp2_with fail
  go_end0
  obtain ⟨h1, h2, h3⟩ := HD.out.parts (grown_cell (i := 1) (.int .i64 n))
  exact ⟨rfl, ⟨HD.out.blk.put 1 _, h1, h2, HD.out.ne, h3⟩, rfl, (Turn.refl _ _).setCell (.inl (.inl rfl)) _, fun _ h => .inl h⟩

set_option maxHeartbeats 1000000 in
theorem dsync_any (h : Zn) (D : Dsk) (w : World) (hd : Dk w h D) (hok : D.Ok) :
    Calls Tryd.prog 25 #[.pointer (some ⟨h.g, 0, none⟩)] w fun e w' => e = .returned (.tuple #[]) ∧ ∃ h', Dk w' h' D.sync ∧ Stp h w h' w' := by
  obtain ⟨g, bv, bg, sl⟩ := h
  have hd2 : w.cell? ⟨g, 2, none⟩ = some (.map (some bv)) := hd.blk.cell 2
  have HD := Lib.hid hd
  have HOK := Lib.hid hok
  clear hd hok
  go_enter Tryd.func25, Tryd.ntmps25
  go_wp2_with fail
  refine (copied_any bv D.nv D.view w HD.out.view HOK.out.view).mono ?_
  rintro e w1 ⟨bo, rfl, hbo, hs, hbl⟩
  have hd1 := HD.out.later hbl
  have HD1 := Lib.hid hd1
  have HS := Lib.hid hs
  have c3 : w1.cell? ⟨g, 3, none⟩ = some (.map (some bg)) := hd1.blk.cell 3
  have c4 : w1.cell? ⟨g, 4, none⟩ = some sl := hd1.blk.cell 4
  have f3 := hd1.blk.free 3
  have f4 := hd1.blk.free 4
  have HBL := Lib.hid hbl
  have hbv := HD.out.view.lt
  clear hd1 hs hbl
  go_wp2_with fail
  go_end0
  have kd := kind_blk HD1.out.blk
  have p1 := HD1.out.parts (grown_cell (g := g) (i := 3) (.map (some bo)))
  have b1 := HD1.out.blk.put 3 (.map (some bo))
  have gg := grown_cell (w := w1.setCell ⟨g, 3, none⟩ (.map (some bo))) (g := g) (i := 4) (.slice none 0 0)
  have kd1 := kind_blk b1
  have hk : ∀ {b n : Nat} {f : SF}, Secs w1 b f n → Secs ((w1.setCell ⟨g, 3, none⟩ (.map (some bo))).setCell ⟨g, 4, none⟩ (.slice none 0 0)) b f n := fun hs => by
    have h1 := hs.other (z := g) (fun e => by have := hs.kind; rw [e] at this; rw [kd] at this; cases this) (by rw [kd]; decide) (grown_cell (g := g) (i := 3) (.map (some bo)))
    exact h1.other (z := g) (fun e => by have := h1.kind; rw [e] at this; rw [kd1] at this; cases this) (by rw [kd1]; decide) gg
  refine ⟨rfl, ⟨g, bv, bo, .slice none 0 0⟩, ⟨b1.put 4 _, hk HD1.out.view, hk HS.out, fun e => by simp only at e hbv; omega, [], World.ownsRow_nil _ _ _ _, PnL.nil _⟩, rfl, ((Turn.of_below HBL.out).setCell (.inl (.inl rfl)) _).setCell (.inl (.inl rfl)) _, fun b hb => ?_⟩
  rcases hb with h | h | h | h
  · exact .inl (.inl h)
  · exact .inl (.inr (.inl h))
  · right; simp only at h; omega
  · cases h
end Go.Proofs.YtpmndmgfoiagnaaDoor
