/- What the proof of PagerLeast needs, part 26. -/
import Derived.Test.YtildohndbeagaaaGreatDoorPagerLeastJ25

namespace Go.Proofs.YtildohndbeagaaaGreatDoor
open Go Go.RowKit
set_option linter.unusedVariables false

section
variable {w w' : World} {h h' : Zn} {D D' : Dsk}
/-- A box of an int that is no closure's turned: behind it lies a block of another kind than a closure's has. -/
theorem Dk.setInt (d : Dk w h D) (hp : ∀ p ∈ D.pend, ∃ a b, p = .wr a b) {g : Nat} {cs : Array Value} (hg : Blk w g 3 cs) {t : TypeId} (hk : kindAt w (g + 1) = some (some t)) (ht : t ≠ 68) (i : Nat) (u : Value) : Dk (w.setCell ⟨g, i, none⟩ u) h D := by
  have gc := grown_cell (w := w) (g := g) (i := i) u
  have hki := kind_blk hg
  have hub : ∀ v l, Ub w 0 v l → Ub (w.setCell ⟨g, i, none⟩ u) 0 v l := fun v l h => h.other (by rw [hki]; decide) gc
  have hsec : ∀ {b n : Nat} {f : SF}, Secs w b f n → Secs (w.setCell ⟨g, i, none⟩ u) b f n := fun {b n f} hs => hs.other (fun e => by have := hs.kind; rw [e, hki] at this; cases this) (by rw [hki]; decide) gc
  have hblk : ∀ {z : Nat} {t : TypeId} {cs : Array Value}, Blk w z t cs → z ≠ g → Blk (w.setCell ⟨g, i, none⟩ u) z t cs := fun hb hne => hb.grown gc (fun e => hne (Option.some.inj e).symm)
  obtain ⟨vs, ho, hpl⟩ := d.pend
  refine ⟨hblk d.blk (fun e => ?_), hsec d.view, hsec d.ground, d.ne, vs, ho.other (fun e => ?_) gc, ⟨hpl.1, fun j v p h1 h2 => ?_⟩⟩
  · have := kind_blk d.blk
    rw [e, hki] at this
    revert this
    decide
  · have := kind_own ho e
    rw [hki] at this
    revert this
    decide
  · obtain ⟨a, b, rfl⟩ := hp p (List.mem_of_getElem? h2)
    obtain ⟨ga, A, c, h3, h4, h5, h6⟩ := hpl.2 j v _ h1 h2
    refine ⟨ga, A, c, h3, hblk h4 (fun e => ?_), hblk h5 (fun e => ?_), hub _ _ h6⟩
    · have := kind_blk h5
      rw [e, hk] at this
      injection this with this
      injection this with this
      exact ht this
    · have := kind_blk h5
      rw [e, hki] at this
      revert this
      decide
end
section
variable {w w' : World} {Z : Pz} {P : Pgr} {h' : Zn} {D' : Dsk}
theorem Pg.setInt (p : Pg w Z P) (hp : ∀ q ∈ P.D.pend, ∃ a b, q = .wr a b) {g : Nat} {cs : Array Value} (hg : Blk w g 3 cs) {t : TypeId} (hk : kindAt w (g + 1) = some (some t)) (ht : t ≠ 68) (i : Nat) (u : Value) : Pg (w.setCell ⟨g, i, none⟩ u) Z P := by
  have gc := grown_cell (w := w) (g := g) (i := i) u
  have hki := kind_blk hg
  have hblk : ∀ {z : Nat} {t : TypeId} {cs : Array Value}, Blk w z t cs → t ≠ 3 → Blk (w.setCell ⟨g, i, none⟩ u) z t cs := fun {z t cs} hb hne => hb.grown gc (fun e => by
    have := kind_blk hb
    rw [← Option.some.inj e, hki] at this
    injection this with this
    injection this with this
    exact hne this.symm)
  have hmap : ∀ {b : Nat}, kindAt w b = some none → b ≠ g := fun hb e => by rw [e, hki] at hb; cases hb
  exact ⟨p.dk.setInt hp hg hk ht i u, ⟨hblk p.mt.blk (by decide)⟩, hblk p.blk (by decide), ⟨p.tb.in90, p.tb.mp.other (hmap p.tb.kind) gc⟩, ⟨p.wr.in90, p.wr.mp.other (hmap p.wr.kind) (by rw [hki]; decide) gc⟩, ⟨p.gn.in90, p.gn.mp.other (hmap p.gn.kind) gc⟩, p.n1, p.n2, p.n3, p.m1, p.m2, p.m3⟩
theorem Secs.turn {b n : Nat} {f : SF} {F : Nat → Prop} (h : Secs w b f n) (ht : Turn F w w') (hb : ¬ F b) (hF : ∀ z, F z → kindAt w z ≠ some (some 5)) : Secs w' b f n := by
  have hub : ∀ v l, Ub w 0 v l → Ub w' 0 v l := fun v l hu => hu.keep fun z hz => ht.block z (by obtain ⟨_, cs, fz, hh⟩ := hz; exact lt_of_block hh) fun e => hF z e (kind_ub hz)
  have hlt := h.lt
  obtain ⟨m, hm, hr⟩ := h
  exact ⟨m, hm.at (ht.block b hlt hb), fun x hx => (hr x hx).keep hub⟩
/-- Calls on the disk, and on the meta page. -/
theorem Pg.mtp (p : Pg w Z P) (s : Mtp Z.h Z.gm w h' w') (k : Dk w' h' D') {num : Nat} {last : Int} (m : Mk w' Z.gm h' P.a num last) : Pg w' { Z with h := h' } { P with D := D', num := num, last := last } ∧ Ptp Z w { Z with h := h' } w' := by
  have hk : ∀ z, Z.h.has z ∨ z = Z.gm → kindAt w z ≠ some (some 5) := fun z hz => by
    rcases hz with hz | rfl
    · rcases p.dk.kinds hz with e | e | e <;> (rw [e]; decide)
    · rw [kind_blk p.mt.blk]; decide
  have hgm : ∀ {b : Nat}, kindAt w b = some none → ¬ Z.h.has b → ¬ (Z.h.has b ∨ b = Z.gm) := fun hb hn e => by
    rcases e with e | e
    · exact hn e
    · rw [e, kind_blk p.mt.blk] at hb; cases hb
  have hnew : ∀ {b : Nat}, b < w.heap.size → ¬ Z.h.has b → ¬ h'.has b := fun hb hn e => by
    rcases s.has _ e with e | e
    · exact hn e
    · omega
  refine ⟨⟨k, m, ?_, ?_, ?_, ?_, p.n1, p.n2, p.n3, hnew p.tb.lt p.m1, hnew p.wr.lt p.m2, hnew p.gn.lt p.m3⟩, ⟨rfl, s.g, ?_, fun b hb => ?_⟩⟩
  · have hb := p.blk.turn s.turn (fun e => by
      rcases e with e | e
      · rcases p.dk.kinds e with e | e | e <;> (rw [kind_blk p.blk] at e; revert e; decide)
      · have := kind_blk p.mt.blk
        rw [← e, kind_blk p.blk] at this
        revert this
        decide)
    show Blk w' Z.g 80 (pgC { Z with h := h' } _)
    unfold pgC at hb ⊢
    simp only
    rw [s.g]
    exact hb
  · exact ⟨p.tb.in90, p.tb.mp.at (s.turn.block _ p.tb.lt (hgm p.tb.kind p.m1))⟩
  · exact ⟨p.wr.in90, p.wr.mp.turn s.turn (hgm p.wr.kind p.m2) hk⟩
  · exact ⟨p.gn.in90, p.gn.mp.at (s.turn.block _ p.gn.lt (hgm p.gn.kind p.m3))⟩
  · exact s.turn.mono fun b hb _ => by
      rcases hb with hb | hb
      · exact .inr (.inr (.inr (.inr (.inr hb))))
      · exact .inr (.inl hb)
  · rcases hb with hb | hb | hb | hb | hb | hb
    · exact .inl (.inl hb)
    · exact .inl (.inr (.inl hb))
    · exact .inl (.inr (.inr (.inl hb)))
    · exact .inl (.inr (.inr (.inr (.inl hb))))
    · exact .inl (.inr (.inr (.inr (.inr (.inl hb)))))
    · rcases s.has _ hb with e | e
      · exact .inl (.inr (.inr (.inr (.inr (.inr e)))))
      · exact .inr e
theorem Pg.stp (p : Pg w Z P) (s : Stp Z.h w h' w') (k : Dk w' h' D') : Pg w' { Z with h := h' } { P with D := D' } ∧ Ptp Z w { Z with h := h' } w' :=
  p.mtp (Mtp.of_stp s) k (p.mt.stp p.dk s)
theorem Ptp.grow {Z' : Pz} {wr : World} {z : Nat} (h : Ptp Z w Z' wr) (hg : wr.grownBy w' (some z)) (hz : Z.has z ∨ w.heap.size ≤ z) : Ptp Z w Z' w' :=
  ⟨h.g, h.hg, h.turn.trans (F' := fun b => b = z) (Turn.of_grown hg fun y hy => by injection hy with hy; exact hy.symm) fun b hb => by rw [hb]; exact hz, h.has⟩
theorem Ptp.later {Z' : Pz} {wr : World} (h : Ptp Z w Z' wr) (hb : Below wr.heap.size wr w') : Ptp Z w Z' w' := h.trans (Ptp.below hb)
end

/-- What holds amid the steps of a commit. -/
structure PsSt (w wr : World) (Z Z' : Pz) (P : Pgr) (D' : Dsk) (gk : Nat) (s : Int) (bo : Nat) (t : TF) (N : Nat) : Prop where
  pg : Pg wr Z' { P with D := D' }
  ptp : Ptp Z w Z' wr
  blk : Blk wr gk 3 #[.int .i64 s]
  kind : kindAt wr (gk + 1) = some (some 145)
  tb : Tbl wr bo t
  k0 : w.heap.size ≤ gk
  b0 : w.heap.size ≤ bo
  bn : ¬ Z'.has bo
  ok : D'.Ok
  wrs : ∀ p ∈ D'.pend, ∃ a b, p = .wr a b
  s : InI s
  pend : D'.pend.length ≤ P.D.pend.length + N
section
variable {w wr w' : World} {Z Z' : Pz} {P : Pgr} {D' : Dsk} {gk bo N : Nat} {s : Int} {t : TF}
theorem PsSt.later (p : PsSt w wr Z Z' P D' gk s bo t N) (hb : Below wr.heap.size wr w') : PsSt w w' Z Z' P D' gk s bo t N :=
  ⟨p.pg.later hb, p.ptp.later hb, p.blk.later hb, by
    have := p.kind
    unfold kindAt at this ⊢
    have hlt : gk + 1 < wr.heap.size := by
      rcases Nat.lt_or_ge (gk + 1) wr.heap.size with h | h
      · exact h
      · rw [Array.getElem?_eq_none h] at this; cases this
    rw [hb.block _ hlt]
    exact this, p.tb.later hb, p.k0, p.b0, p.bn, p.ok, p.wrs, p.s, p.pend⟩
theorem decI_in (s : Int) : InI (decI s) := by unfold decI InI; rw [IntKind.wrap_i64]; omega
theorem kindAt_grown {z b : Nat} (hg : wr.grownBy w' (some z)) (hb : b < wr.heap.size) (hne : z ≠ b) : kindAt w' b = kindAt wr b := by
  unfold kindAt
  rw [hg.block b hb (fun e => hne (Option.some.inj e).symm)]
theorem kind_lt' {b : Nat} {k : Option TypeId} (h : kindAt wr b = some k) : b < wr.heap.size := by
  rcases Nat.lt_or_ge b wr.heap.size with hb | hb
  · exact hb
  · unfold kindAt at h
    rw [Array.getElem?_eq_none hb] at h
    cases h
theorem PsSt.dec (p : PsSt w wr Z Z' P D' gk s bo t N) : PsSt w (wr.setCell ⟨gk, 0, none⟩ (.int .i64 (decI s))) Z Z' P D' gk (decI s) bo t N := by
  have gc := grown_cell (w := wr) (g := gk) (i := 0) (.int .i64 (decI s))
  have hki := kind_blk p.blk
  refine ⟨p.pg.setInt p.wrs p.blk p.kind (by decide) 0 _, p.ptp.grow gc (.inr p.k0), p.blk.put 0 _, ?_, ⟨p.tb.in90, p.tb.mp.other (fun e => by have := p.tb.kind; rw [e, hki] at this; cases this) gc⟩, p.k0, p.b0, p.bn, p.ok, p.wrs, decI_in s, p.pend⟩
  rw [kindAt_grown gc (kind_lt' p.kind) (by omega)]
  exact p.kind
theorem Dsk.write_pend (D : Dsk) (x : Int) (b : List UInt8) : ∀ p ∈ (D.write x b).pend, p ∈ D.pend ∨ p = .wr x b := by
  unfold Dsk.write
  split
  · intro p hp
    rcases List.mem_append.1 hp with h | h
    · exact .inl h
    · simp only [List.mem_singleton] at h
      exact .inr h
  · exact fun p hp => .inl hp
theorem PsSt.write {h' : Zn} {x : Int} {b : List UInt8} (p : PsSt w wr Z Z' P D' gk s bo t N) (hs : Stp Z'.h wr h' w') (hd : Dk w' h' (D'.write x b)) : PsSt w w' Z { Z' with h := h' } P (D'.write x b) gk s bo t (N + 1) := by
  obtain ⟨p1, p2⟩ := p.pg.stp hs hd
  have hw := Go.Proofs.YtildohndbeagaaaGreatDoor.write_pend D' x b
  have hnot : ∀ {b : Nat} {k : Option TypeId}, kindAt wr b = some k → k ≠ some 75 → k ≠ none → k ≠ some 113 → ¬ Z'.h.has b := fun hb h1 h2 h3 e => by
    rcases p.pg.dk.kinds e with e | e | e <;> (rw [hb] at e; injection e with e; first | exact h1 e | exact h2 e | exact h3 e)
  refine ⟨p1, p.ptp.trans p2, p.blk.turn hs.turn (hnot (kind_blk p.blk) (by decide) (by decide) (by decide)), ?_, ⟨p.tb.in90, p.tb.mp.at (hs.turn.block _ p.tb.lt fun e => p.bn (.inr (.inr (.inr (.inr (.inr e))))))⟩, p.k0, p.b0, fun e => ?_, p.ok.write x b, fun q hq => ?_, p.s, by have := p.pend; omega⟩
  · unfold kindAt
    rw [hs.turn.block _ (kind_lt' p.kind) (hnot p.kind (by decide) (by decide) (by decide))]
    exact p.kind
  · rcases p2.has _ e with e | e
    · exact p.bn e
    · have := p.tb.lt; omega
  · rcases Dsk.write_pend D' x b q hq with h | h
    · exact p.wrs q h
    · exact ⟨x, b, h⟩
end
set_option maxHeartbeats 1000000 in
/-- 'more'. -/
theorem pmore_any (gk : Nat) (s : Int) (w : World) (hb : Blk w gk 3 #[.int .i64 s]) :
    Calls Tryz.prog 42 #[.pointer (some ⟨gk, 0, none⟩)] w fun e w' => e = .returned (.bool (decide (0 ≤ decI s))) ∧ w' = w.setCell ⟨gk, 0, none⟩ (.int .i64 (decI s)) := by
  have c0 : w.cell? ⟨gk, 0, none⟩ = some (.int .i64 s) := hb.cell 0
  have f0 : w.frozen? ⟨gk, 0, none⟩ = false := hb.free 0
  have HD : Hid (IntKind.i64.wrap (s - 1) = decI s) := rfl
  obtain ⟨d, hd⟩ : ∃ d, decI s = d := ⟨_, rfl⟩
  have hwd : IntKind.i64.wrap (s - 1) = d := HD.out.trans hd
  rw [hd]
  clear hd HD hb
  go_enter Tryz.func42, Tryz.ntmps42
  go_wp2_with fail
  go_ret
  exact ⟨by simp, rfl⟩
end Go.Proofs.YtildohndbeagaaaGreatDoor
