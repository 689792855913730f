/- The disk: New, do. -/
import Derived.Test.YtpmndmgfoiagnaaDoorDskD
import Derived.Test.YtpmndmgfoiagnaaDoorCodW
namespace Go.Proofs.YtpmndmgfoiagnaaDoor
open Go Go.RowKit
set_option linter.unusedVariables false

theorem below_of_grown {w w' : World} (h : w.grownBy w' none) : Below w.heap.size w w' := ⟨h.os, h.tape, h.output, h.size, fun i hi => h.block i hi (by simp)⟩
theorem Secs.row {w w' : World} {b n : Nat} {f : SF} {row : Option Nat} (h : Secs w b f n) (hz : ∀ z, row = some z → b ≠ z ∧ kindAt w z ≠ some (some 5)) (hg : w.grownBy w' row) : Secs w' b f n := by
  cases row with
  | none => exact h.later (below_of_grown hg)
  | some z => exact h.other (hz z rfl).1 (hz z rfl).2 hg
theorem PnIs.row {w w' : World} {v : Value} {p : Pnd} {row : Option Nat} (h : PnIs w v p) (hz : ∀ z, row = some z → ∀ t ∈ pnKinds, kindAt w z ≠ some (some t)) (hg : w.grownBy w' row) : PnIs w' v p := by
  cases row with
  | none => exact h.later (below_of_grown hg)
  | some z => exact h.other (hz z rfl) hg
theorem elemPn : Elem Tryd.prog 63 84 .nilFunc 1 8 := Elem.mk' Tryd.underlying63 (by kernel_rfl) rfl (by omega)
theorem tornB_nat (b o : List UInt8) (n : Int) : tornB b o ((n.toNat : Nat) : Int) = tornB b o n := by unfold tornB; rw [Int.toNat_natCast]
theorem kind_alloc {w : World} {b : Nat} (o : Obj) (hb : b < w.heap.size) : kindAt (w.alloc o) b = kindAt w b := by unfold kindAt; rw [Below.heap_alloc w o b hb]

/-- What a closure does to the sectors that it is given. -/
theorem closure_any {w : World} {v : Value} {p : Pnd} {bm n0 : Nat} {f : SF} {n : Int} (hp : PnIs w v p) (hpo : PnOk p) (hs : Secs w bm f n0) (hf : FinK f n0) (hn : InI n) {Q : Ending → World → Prop}
    (hQ : ∀ w', Secs w' bm (doP (f, n0) p n).1 (doP (f, n0) p n).2 → w.grownBy w' (some bm) → Q (.returned (.tuple #[])) w') :
    ∃ fn caps, v = .func (Fn.func fn) #[] caps ∧ ∀ args, args = #[.map (some bm), .int .i64 n] ++ caps → Calls Tryd.prog fn args w Q := by
  cases p with
  | wr a b =>
    obtain ⟨ga, gb, A, c, rfl, h1, h2, h3⟩ := hp
    refine ⟨_, _, rfl, fun args ha => ?_⟩
    subst ha
    have ho : ((f a).getD []).length ≤ 512 := by
      cases hfa : f a with
      | none => simp
      | some o => exact (hf.at hfa).2.2
    have hi : InI a := by have := hpo.1; have := hpo.2.1; unfold InI; omega
    refine (wclos_at ga gb A c a b bm n0 f n n.toNat w h1 h2 h3 hs hf.bound hi hpo.2.2 ho (by omega) (by unfold InI at hn; omega)).mono ?_
    rintro e w' ⟨rfl, h4, h5⟩
    rw [tornB_nat] at h4
    exact hQ w' h4 h5
  | fr a =>
    obtain ⟨ga, rfl, h1⟩ := hp
    refine ⟨_, _, rfl, fun args ha => ?_⟩
    subst ha
    have hi : InI a := by have := hpo.1; have := hpo.2; unfold InI; omega
    refine (fclos_any ga a bm n0 f n w h1 hs hi).mono ?_
    rintro e w' ⟨rfl, h4, h5⟩
    exact hQ w' h4 h5

set_option maxHeartbeats 1000000 in
theorem dnew_any (n : Int) (w : World) (h1 : 1 ≤ n) (h2 : n ≤ 65536) :
    Calls Tryd.prog 6 #[.int .i64 n] w fun e w' => ∃ h, e = .returned (.tuple #[.pointer (some ⟨h.g, 0, none⟩), .int .i64 0]) ∧ Dk w' h (Dsk.new n) ∧ (∀ b, h.has b → w.heap.size ≤ b) ∧ Below w.heap.size w w' := by
  have hmm := @run_makeMap Tryd.prog
  have i1 : ¬ n < 1 := by omega
  have i2 : ¬ 65536 < n := by omega
  go_enter Tryd.func6, Tryd.ntmps6
  go_wp2_with fail
  go_ret2
  have s1 : (w.alloc (.map #[] 0)).heap.size = w.heap.size + 1 := by simp
  have s2 : ((w.alloc (.map #[] 0)).alloc (.map #[] 0)).heap.size = w.heap.size + 1 + 1 := by simp
  have q1 : Below (w.heap.size + 1) (w.alloc (.map #[] 0)) ((w.alloc (.map #[] 0)).alloc (.map #[] 0)) := by
    have := (Below.refl (w.alloc (.map #[] 0)).heap.size (w.alloc (.map #[] 0))).alloc (Nat.le_refl _) (.map #[] 0)
    rwa [s1] at this
  have m1 := Secs.made w
  have m2 := Secs.made (w.alloc (.map #[] 0))
  rw [s1] at m2
  have m1' : Secs ((w.alloc (.map #[] 0)).alloc (.map #[] 0)) w.heap.size (fun _ => none) 0 := m1.later (by rw [s1]; exact q1)
  have b3 := Blk.new ((w.alloc (.map #[] 0)).alloc (.map #[] 0)) 65 #[.int .i64 n, .int .i64 n, .map (some w.heap.size), .map (some (w.heap.size + 1)), .slice none 0 0]
  rw [s2] at b3
  have q3 := (Below.refl ((w.alloc (.map #[] 0)).alloc (.map #[] 0)).heap.size ((w.alloc (.map #[] 0)).alloc (.map #[] 0))).alloc (Nat.le_refl _) (.cells #[.int .i64 n, .int .i64 n, .map (some w.heap.size), .map (some (w.heap.size + 1)), .slice none 0 0] 65)
  refine ⟨⟨w.heap.size + 1 + 1, w.heap.size, w.heap.size + 1, .slice none 0 0⟩, rfl, ⟨b3, m1'.later q3, m2.later q3, by simp, [], World.ownsRow_nil _ _ _ _, PnL.nil _⟩, fun b hb => ?_, (((Below.refl _ _).alloc (Nat.le_refl _) _).alloc (by simp) _).alloc (by simp; omega) _⟩
  rcases hb with h | h | h | h
  · simp only at h; omega
  · simp only at h; omega
  · simp only at h; omega
  · cases h
set_option maxHeartbeats 1000000 in
theorem dnew_bad (n : Int) (w : World) (h : n < 1 ∨ 65536 < n) :
    Calls Tryd.prog 6 #[.int .i64 n] w fun e w' => e = .returned (.tuple #[.pointer none, .int .i64 60]) ∧ Below w.heap.size w w' := by
  rcases Decidable.em (n < 1) with h0 | h0
  case' inl => have hx := h0
  case' inr => have hx : 65536 < n := h.resolve_left h0
  all_goals
    clear h
    go_enter Tryd.func6, Tryd.ntmps6
    go_wp2_with fail
    go_ret2
    exact ⟨rfl, Below.refl _ _⟩

theorem grown_cell {w : World} {g i : Nat} (u : Value) : w.grownBy (w.setCell ⟨g, i, none⟩ u) (some g) := ⟨rfl, rfl, rfl, by simp, fun k hk hne => Below.heap_setCell w ⟨g, i, none⟩ u k (fun e => hne (by rw [e]))⟩
theorem ddo_fin {w w1 : World} {g bv bg k1 c0 c1 : Nat} {A0 A1 : Option Addr} {vs : List Value} {D : Dsk} {pv : Value} {p : Pnd} {n : Int} {row : Obj} (hd : Dk w ⟨g, bv, bg, .slice A0 vs.length c0⟩ D) (hok : D.Ok) (hp : PnIs w pv p) (hpo : PnOk p) (hn : InI n)
    (hown : Ow 84 (w.alloc row) 0 (.slice A0 vs.length c0) vs) (hpl : PnL w vs D.pend) (hown1 : w1.ownsRow 0 84 1 (.slice A1 k1 c1) (vs.length + 1) (vs ++ [pv])) (hga : (w.alloc row).grownBy w1 (Value.slice A0 vs.length c0).ownBlock)
    (hat : (Value.slice A1 k1 c1).ownBlock = (Value.slice A0 vs.length c0).ownBlock ∨ (Value.slice A1 k1 c1).ownBlock = some (w.alloc row).heap.size) {fn : FuncId} {args : Array Value}
    (hv : ∃ caps, pv = .func (Fn.func fn) #[] caps ∧ args = #[.map (some bv), .int .i64 n] ++ caps) :
    Calls Tryd.prog fn args (w1.setCell ⟨g, 4, none⟩ (.slice A1 k1 c1)) fun e w' => e = .returned (.tuple #[]) ∧ Dk w' ⟨g, bv, bg, .slice A1 k1 c1⟩ (D.put p n) ∧ Stp ⟨g, bv, bg, .slice A0 vs.length c0⟩ w ⟨g, bv, bg, .slice A1 k1 c1⟩ w' := by
  have qa : Below w.heap.size w (w.alloc row) := (Below.refl _ _).alloc (Nat.le_refl _) _
  have d1 := hd.later qa
  have kz : ∀ z, (Value.slice A0 vs.length c0).ownBlock = some z → kindAt (w.alloc row) z = some (some 84) := fun z hz => kind_own hown hz
  have kv := d1.view.kind
  have kg := d1.ground.kind
  simp only at kv kg
  have row1 : ∀ {b m : Nat} {f : SF}, Secs (w.alloc row) b f m → Secs w1 b f m := fun hs => hs.row (fun z hz => ⟨(fun e => by subst e; have h1 := kz _ hz; rw [hs.kind] at h1; cases h1), (by rw [kz z hz]; decide)⟩) hga
  have v1 := row1 d1.view
  have g1 := row1 d1.ground
  have b1 := d1.blk.kept hown hga (by decide)
  have p1 : ∀ {v : Value} {q : Pnd}, PnIs (w.alloc row) v q → PnIs w1 v q := fun h => h.row (fun z hz t ht => by rw [kz z hz]; revert ht; simp only [pnKinds, List.mem_cons, List.not_mem_nil, or_false]; rintro (rfl | rfl | rfl) <;> decide) hga
  have kd1 : kindAt w1 g = some (some 65) := kind_blk b1
  have gc := grown_cell (w := w1) (g := g) (i := 4) (.slice A1 k1 c1)
  have v2 : Secs (w1.setCell ⟨g, 4, none⟩ (.slice A1 k1 c1)) bv D.view D.nv := v1.other (fun e => by have := v1.kind; simp only at e this; rw [e, kd1] at this; cases this) (by rw [kd1]; decide) gc
  have g2 : Secs (w1.setCell ⟨g, 4, none⟩ (.slice A1 k1 c1)) bg D.ground D.ng := g1.other (fun e => by have := g1.kind; simp only at e this; rw [e, kd1] at this; cases this) (by rw [kd1]; decide) gc
  have p2 : ∀ {v : Value} {q : Pnd}, PnIs w1 v q → PnIs (w1.setCell ⟨g, 4, none⟩ (.slice A1 k1 c1)) v q := fun h => h.other (fun t ht => by rw [kd1]; revert ht; simp only [pnKinds, List.mem_cons, List.not_mem_nil, or_false]; rintro (rfl | rfl | rfl) <;> decide) gc
  have b2 := b1.put 4 (.slice A1 k1 c1)
  have o2 : Ow 84 (w1.setCell ⟨g, 4, none⟩ (.slice A1 k1 c1)) 0 (.slice A1 k1 c1) (vs ++ [pv]) := by
    unfold Ow
    rw [List.length_append]
    exact own_set hown1 b1 (by decide) 4 _
  have kv2 := v2.kind
  have hQ : ∀ w3, Secs w3 bv (doP (D.view, D.nv) p n).1 (doP (D.view, D.nv) p n).2 → (w1.setCell ⟨g, 4, none⟩ (.slice A1 k1 c1)).grownBy w3 (some bv) →
      Ending.returned (.tuple #[]) = Ending.returned (.tuple #[]) ∧ Dk w3 ⟨g, bv, bg, .slice A1 k1 c1⟩ (D.put p n) ∧ Stp ⟨g, bv, bg, .slice A0 vs.length c0⟩ w ⟨g, bv, bg, .slice A1 k1 c1⟩ w3 := by
    intro w3 hs3 hg3
    refine ⟨rfl, ?_, ?_⟩
    · have hbg : bg ≠ bv := fun e => hd.ne e.symm
      refine ⟨b2.grown hg3 (fun e => ?_), hs3, g2.other hbg (by rw [kv2]; decide) hg3, hd.ne, vs ++ [pv], o2.other (fun e => ?_) hg3, (PnL.keep (hpl.keep fun v q h => p2 (p1 (h.later qa))) fun v q h => ?_).snoc ?_⟩
      · injection e with e
        have e2 : g = bv := by first | exact e | exact e.symm
        exact absurd ((kind_blk b2).symm.trans ((congrArg (kindAt _) e2).trans kv2)) (by simp)
      · have := kind_own o2 e
        rw [kv2] at this
        cases this
      · exact h.other (fun t ht => by rw [kv2]; simp) hg3
      · exact (p2 (p1 (hp.later qa))).other (fun t ht => by rw [kv2]; simp) hg3
    · refine ⟨rfl, ?_, fun b hb => ?_⟩
      · have t1 : Turn (Zn.has ⟨g, bv, bg, .slice A0 vs.length c0⟩) w w1 := (Turn.of_below qa).trans (Turn.of_grown (F := Zn.has ⟨g, bv, bg, .slice A0 vs.length c0⟩) hga (fun z hz => .inr (.inr (.inr hz)))) (fun b h => .inl h)
        exact (t1.setCell (p := ⟨g, 4, none⟩) (.inl (.inl rfl)) _).trans (Turn.of_grown (F := Zn.has ⟨g, bv, bg, .slice A0 vs.length c0⟩) hg3 (fun z hz => by injection hz with hz; exact .inr (.inl hz.symm))) (fun b h => .inl h)
      · rcases hb with h | h | h | h
        · exact .inl (.inl h)
        · exact .inl (.inr (.inl h))
        · exact .inl (.inr (.inr (.inl h)))
        · simp only at h
          rcases hat with h1 | h1
          · exact .inl (.inr (.inr (.inr (by simp only; rw [← h1]; exact h))))
          · rw [h1] at h
            injection h with h
            right
            rw [← h]
            simp
  obtain ⟨fn', caps', hf, hcall⟩ := closure_any (w := w1.setCell ⟨g, 4, none⟩ (.slice A1 k1 c1)) (v := pv) (n := n) (p2 (p1 (hp.later qa))) hpo v2 hok.view hn
    (Q := fun e w' => e = .returned (.tuple #[]) ∧ Dk w' ⟨g, bv, bg, .slice A1 k1 c1⟩ (D.put p n) ∧ Stp ⟨g, bv, bg, .slice A0 vs.length c0⟩ w ⟨g, bv, bg, .slice A1 k1 c1⟩ w') hQ
  obtain ⟨caps, hpv, harg⟩ := hv
  rw [hpv] at hf
  injection hf with hf1 hf2 hf3
  injection hf1 with hf1
  subst hf1 hf3
  exact hcall args harg

set_option maxHeartbeats 4000000 in
set_option maxRecDepth 100000 in
theorem ddo_any (h : Zn) (D : Dsk) (pv : Value) (p : Pnd) (n : Int) (w : World) (hd : Dk w h D) (hok : D.Ok) (hp : PnIs w pv p) (hpo : PnOk p) (hn : InI n) (hlen : D.pend.length ≤ 1000000000) :
    Calls Tryd.prog 43 #[.pointer (some ⟨h.g, 0, none⟩), pv, .int .i64 n] w fun e w' => e = .returned (.tuple #[]) ∧ ∃ h', Dk w' h' (D.put p n) ∧ Stp h w h' w' := by
  obtain ⟨g, bv, bg, sl⟩ := h
  obtain ⟨vs, hown, hpl⟩ := hd.pend
  have hvl := hpl.1
  obtain ⟨A0, c0, hsl, _⟩ := Ow.shape hown
  simp only at hsl hown
  subst hsl
  have hd4 : w.cell? ⟨g, 4, none⟩ = some (.slice A0 vs.length c0) := hd.blk.cell 4
  have HD := Lib.hid hd
  have HO := Lib.hid (Ow.later hown ((Below.refl _ _).alloc (Nat.le_refl _) (.cells #[pv] 84)))
  have HOK := Lib.hid hok
  have HP := Lib.hid hp
  have HPL := Lib.hid hpl
  have HVL := Lib.hid hvl
  have hvb : vs.length ≤ 1000000000 := by omega
  have hgl : g < w.heap.size := hd.blk.lt
  clear hd hok hp hpl hown hvl
  cases p with
  | wr a b =>
    obtain ⟨ga, gb, _, _, rfl, _⟩ := HP.out
    go_enter Tryd.func43, Tryd.ntmps43
    go_wp2_with (first
      | (at_builtin; refine wpList_append_sl _ rfl (.tmp 10) (.tmp 12) elemPn rfl HO.out (Sl.new1 (S := fun _ => True) _ _ _ rfl trivial) rfl rfl (by intro y hy; simp at hy; subst hy; rfl) (by simp only [maxLen]; omega) (by omega) (Nat.zero_le _) ?_; intro A1 k1 c1 w1 hown1 hga hat1; have hblk := ((HD.out.blk.alloc _).kept HO.out hga (by decide)); have hd4 : w1.cell? ⟨g, 4, none⟩ = some (.slice A0 vs.length c0) := hblk.cell 4; have hf4 := hblk.free 4; have hd2 : w1.cell? ⟨g, 2, none⟩ = some (.map (some bv)) := hblk.cell 2)
      | fail)
    refine (ddo_fin HD.out HOK.out HP.out hpo hn HO.out HPL.out hown1 hga hat1 ⟨_, rfl, rfl⟩).mono ?_
    rintro e w3 ⟨rfl, hd3, hs3⟩
    go_wp2_with fail
    go_end0
    exact ⟨rfl, _, hd3, hs3⟩
  | fr a =>
    obtain ⟨ga, rfl, _⟩ := HP.out
    go_enter Tryd.func43, Tryd.ntmps43
    go_wp2_with (first
      | (at_builtin; refine wpList_append_sl _ rfl (.tmp 10) (.tmp 12) elemPn rfl HO.out (Sl.new1 (S := fun _ => True) _ _ _ rfl trivial) rfl rfl (by intro y hy; simp at hy; subst hy; rfl) (by simp only [maxLen]; omega) (by omega) (Nat.zero_le _) ?_; intro A1 k1 c1 w1 hown1 hga hat1; have hblk := ((HD.out.blk.alloc _).kept HO.out hga (by decide)); have hd4 : w1.cell? ⟨g, 4, none⟩ = some (.slice A0 vs.length c0) := hblk.cell 4; have hf4 := hblk.free 4; have hd2 : w1.cell? ⟨g, 2, none⟩ = some (.map (some bv)) := hblk.cell 2)
      | fail)
    refine (ddo_fin HD.out HOK.out HP.out hpo hn HO.out HPL.out hown1 hga hat1 ⟨_, rfl, rfl⟩).mono ?_
    rintro e w3 ⟨rfl, hd3, hs3⟩
    go_wp2_with fail
    go_end0
    exact ⟨rfl, _, hd3, hs3⟩
end Go.Proofs.YtpmndmgfoiagnaaDoor
