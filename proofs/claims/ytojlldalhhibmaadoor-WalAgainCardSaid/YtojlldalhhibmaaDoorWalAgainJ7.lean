/- What the proof of WalAgain needs, part 7. -/
import Derived.Test.YtojlldalhhibmaaDoorWalAgainJ6
import Derived.BigQuiet
import Derived.Deep.RegionLaw
import Derived.Deep.Cut
import Derived.Deep.DeepCutAuto

namespace Go.Proofs.YtojlldalhhibmaaDoor
open Go Go.RowKit
set_option linter.unusedVariables false

/-- append onto an empty slice of one's own: memory only grows. -/
theorem run_append_new {P : Program} (w : World) {base : Nat} {t e : TypeId} {z : Value} {size bytes : Nat} (E : Elem P t e z size bytes) (ty : TypeId)
    {g : Nat} (hown : w.ownsRow base e size (.slice (some ⟨g, 0, none⟩) 0 0) 0 [])
    {S : Nat → Prop} {u : Value} {m : Nat} {news : List Value} (hr : Sl S w size u m news) (hlen : m ≤ maxLen) (hbytes : m * bytes ≤ 140737488355328) (hbase : base ≤ w.heap.size) :
    ∃ v' w', (Builtin.append_ #[t, t] ty #[.slice (some ⟨g, 0, none⟩) 0 0, u]).run P w = .ok v' w' ∧ w'.ownsRow base e size v' m news ∧ Below w.heap.size w w' := by
  obtain ⟨hl, A, c, rfl, hmc, hcm, hA0, hA⟩ := hr
  have hE := E
  obtain ⟨i, hi, hz, hsz, hby⟩ := E.info
  rcases Nat.eq_zero_or_pos m with hm | hm
  · subst hm
    obtain rfl : news = [] := List.eq_nil_of_length_eq_zero (by simpa using hl)
    refine ⟨_, w, ?_, hown, Below.refl _ _⟩
    rcases A with _ | ad
    · exact run_append_nilsrc w hE ty hown c
    · simp [Builtin.append_, run_underlying E.under, sizeOf, typeInfo, hi, Builtin.lenOf, Builtin.firstCells, loadCells, loadCellsFrom, storeCells]
  · obtain ⟨b, o, rfl, _, hc⟩ := hA hm
    have hsmall : m ≤ 9223372036854775807 := by simp only [maxLen] at hlen; omega
    subst hsz hby
    have hr := run_append_grow (P := P) w t ty e i z E.under hi hz ⟨g, 0, none⟩ 0 0 [] (by simp) (by intro j v hj; simp at hj) ⟨b, o, none⟩ m c news hl (fun j v hj => by rw [addr_add_none]; exact hc j v hj) (by omega) (by omega) (growslice_fits (by omega) (by simpa using hbytes))
    have hge := grownCap_ge w m 0 e
    have hcm : grownCap w m 0 e ≤ maxLen := grownCap_le_maxLen w m 0 e hlen
    simp only [Nat.zero_add] at hr
    refine ⟨_, _, hr, ⟨hl, .inr ⟨w.heap.size, _, _, rfl, hbase, heap_alloc_new w.drew _, hge, hcm, ?_, ?_⟩⟩, (Below.refl w.heap.size w).drew.alloc (by simp) _⟩
    · simp only [Array.size_append, List.size_toArray, size_zeroCells, E.cells, hl, List.length_nil, Nat.zero_add, ← Nat.add_mul]
      congr 1
      omega
    · simp only [Array.toList_append, List.nil_append]
      rw [← hl]
      exact List.take_left
theorem grows_append {P : Program} {o : Oper} {a : Act} {w w' : World} {V : VP} {t : TypeId} {v u v' : Value} (s x : Operand) (ho : o.op = .call { callee := .builtin .append, args := #[s, x], argTypes := #[t, t] }) (hs : a.eval s = v) (hx : a.eval x = u)
    (hrun : (Builtin.append_ #[t, t] o.type #[v, u]).run P w = .ok v' w') (hb : Below w.heap.size w w') (hV : V v' w') : grows P o a w V := by
  unfold grows execOp
  simp only [ho, resolve, invoke, builtin, Sem.run_bind, Sem.run_pure, Result.andThen_ok, List.map_toArray, List.map_cons, List.map_nil, hs, hx, hrun]
  exact ⟨hb, hV⟩

/-- Sectors of one's own. -/
def VSec (B : Nat) (f : SF) (n : Nat) : VP := fun v w => ∃ b, v = .map (some b) ∧ B ≤ b ∧ Secs w b f n
theorem Stays.sec (B : Nat) (f : SF) (n : Nat) : Stays (VSec B f n) := fun _ _ _ hb ⟨b, h1, h2, h3⟩ => ⟨b, h1, h2, h3.later hb⟩
def VOwn (e : TypeId) (B : Nat) (vs : List Value) : VP := fun v w => Ow e w B v vs
theorem Stays.own (e : TypeId) (B : Nat) (vs : List Value) : Stays (VOwn e B vs) := fun _ _ _ hb h => h.later hb
def VEmp (e : TypeId) (B : Nat) : VP := fun v w => ∃ g, v = .slice (some ⟨g, 0, none⟩) 0 0 ∧ Ow e w B v []
theorem Stays.emp (e : TypeId) (B : Nat) : Stays (VEmp e B) := fun _ _ _ hb ⟨g, h1, h2⟩ => ⟨g, h1, h2.later hb⟩
/-- A disk of one's own, as a struct value; in a block. -/
def VCp (B : Nat) (D : Dsk) (vs : List Value) : VP := fun v w => ∃ bv bg sl, v = .agg #[.int .i64 D.size, .int .i64 D.limit, .map (some bv), .map (some bg), sl] ∧ B ≤ bv ∧ B ≤ bg ∧ Secs w bv D.view D.nv ∧ Secs w bg D.ground D.ng ∧ Ow 78 w B sl vs
theorem Stays.cp (B : Nat) (D : Dsk) (vs : List Value) : Stays (VCp B D vs) := fun _ _ _ hb ⟨bv, bg, sl, h1, h2, h3, h4, h5, h6⟩ => ⟨bv, bg, sl, h1, h2, h3, h4.later hb, h5.later hb, h6.later hb⟩
def VCb (B : Nat) (D : Dsk) (vs : List Value) : VP := fun v w => ∃ g bv bg sl, v = .pointer (some ⟨g, 0, none⟩) ∧ B ≤ g ∧ Blk w g 49 #[.int .i64 D.size, .int .i64 D.limit, .map (some bv), .map (some bg), sl] ∧ B ≤ bv ∧ B ≤ bg ∧ Secs w bv D.view D.nv ∧ Secs w bg D.ground D.ng ∧ Ow 78 w B sl vs
theorem Stays.cb (B : Nat) (D : Dsk) (vs : List Value) : Stays (VCb B D vs) := fun _ _ _ hb ⟨g, bv, bg, sl, h1, h2, h3, h4, h5, h6, h7, h8⟩ => ⟨g, bv, bg, sl, h1, h2, h3.later hb, h4, h5, h6.later hb, h7.later hb, h8.later hb⟩

theorem MpV.alike {P : Program} {k : TypeId} {w : World} {b n n' : Nat} {f g : Int → Option Value} (h : MpV P k w b f n) (h' : MpV P k w b g n') {a : Int} (ha : InI a) : (f a).isSome = (g a).isSome := by
  obtain ⟨D, ⟨es, cl, hb, _, _, hD⟩, _, h3⟩ := h
  obtain ⟨D', ⟨es', cl', hb', _, _, hD'⟩, _, h3'⟩ := h'
  rw [hb] at hb'
  injection hb' with hb'
  injection hb' with hb'
  subst hb'
  have e : D = D' := hD.trans hD'.symm
  subst e
  rw [← (h3 a ha).1, ← (h3' a ha).1]
theorem Secs.alike {w : World} {b n n' : Nat} {f f' : SF} (h : Secs w b f n) (h' : Secs w b f' n') {x : Int} (hx : InI x) : (f x).isSome = (f' x).isSome := by
  obtain ⟨m, hm, hr⟩ := h
  obtain ⟨m', hm', hr'⟩ := h'
  rw [← (hr x hx).some_iff, ← (hr' x hx).some_iff]
  exact hm.alike hm' hx

set_option maxHeartbeats 4000000 in
set_option maxRecDepth 100000 in
theorem dcopy_any (h : Zn) (D : Dsk) (w : World) (hd : Dk w h D) (hok : D.Ok) (hne : ∃ x, InI x ∧ (D.view x).isSome ≠ (D.ground x).isSome) (hlen : D.pend.length ≤ 1000000) :
    Calls Tryd.prog 13 #[.pointer (some ⟨h.g, 0, none⟩)] w fun e w' => ∃ h', e = .returned (.pointer (some ⟨h'.g, 0, none⟩)) ∧ Dk w' h' D ∧ (∀ b, h'.has b → w.heap.size ≤ b) ∧ Below w.heap.size w w' := by
  obtain ⟨vs, hown, hpl⟩ := hd.pend
  have hvl := hpl.1
  obtain ⟨A0, c0, hsl, _⟩ := Ow.shape hown
  have HD := Lib.hid hd
  have HOK := Lib.hid hok
  have HPL := Lib.hid hpl
  have HNE := Lib.hid hne
  have HO := Lib.hid hown
  have hvb : vs.length ≤ 1000000 := by omega
  have d0 : w.cell? ⟨h.g, 0, none⟩ = some (.int .i64 D.size) := hd.blk.cell 0
  have d1 : w.cell? ⟨h.g, 1, none⟩ = some (.int .i64 D.limit) := hd.blk.cell 1
  have d2 : w.cell? ⟨h.g, 2, none⟩ = some (.map (some h.bv)) := hd.blk.cell 2
  have d3 : w.cell? ⟨h.g, 3, none⟩ = some (.map (some h.bg)) := hd.blk.cell 3
  have d4 : w.cell? ⟨h.g, 4, none⟩ = some (.slice A0 vs.length c0) := by have := hd.blk.cell 4; rw [hsl] at this; exact this
  rw [hsl] at HO
  clear hd hok hpl hne hown hvl hsl
  go_enter Tryd.func13, Tryd.ntmps13
  go_wp2_with fail
  refine wp_region_grow_lit (by kernel_rfl) (by kernel_rfl) ?_
  apply Exists.intro
  apply And.intro
  · repeat (first
      | (apply wpGrow_skip rfl
         intro K hK
         go_simp
         refine hK _ ?_
         clear hK K)
      | (apply wpGrow_is rfl
         · intro wg hwg _
           have d0' := cell_later hwg d0
           have d1' := cell_later hwg d1
           have d2' := cell_later hwg d2
           have d3' := cell_later hwg d3
           unfold grows
           go_simp
           first
             | exact grows_value _ _
         intro K hK
         go_simp
         refine hK _ ?_
         clear hK K))
    apply wpGrow_rel (V := VSec w.heap.size D.view D.nv) rfl
    · intro wg hwg hf
      unfold grows
      go_simp
      refine ⟨Below.refl _ _, ?_⟩
      go_at_call 28
      exact (copied_any h.bv D.nv D.view wg (HD.out.view.later hwg) HOK.out.view).mono fun e w' ⟨b, he, hb, hs, hbl⟩ => ⟨_, he, hbl, b, rfl, Nat.le_trans hwg.size hb, hs⟩
    intro xv hxv K hK
    obtain ⟨wx, _, hbx⟩ := hxv
    have hbo := hbx
    obtain ⟨b13, rfl, _⟩ := hbo
    go_simp
    refine hK _ ?_
    clear hK K hbx
    repeat (first
      | (apply wpGrow_skip rfl
         intro K hK
         go_simp
         refine hK _ ?_
         clear hK K)
      | (apply wpGrow_is rfl
         · intro wg hwg _
           have d0' := cell_later hwg d0
           have d1' := cell_later hwg d1
           have d2' := cell_later hwg d2
           have d3' := cell_later hwg d3
           unfold grows
           go_simp
           first
             | exact grows_value _ _
         intro K hK
         go_simp
         refine hK _ ?_
         clear hK K))
    apply wpGrow_rel (V := VSec w.heap.size D.ground D.ng) rfl
    · intro wg hwg hf
      unfold grows
      go_simp
      refine ⟨Below.refl _ _, ?_⟩
      go_at_call 28
      exact (copied_any h.bg D.ng D.ground wg (HD.out.ground.later hwg) HOK.out.ground).mono fun e w' ⟨b, he, hb, hs, hbl⟩ => ⟨_, he, hbl, b, rfl, Nat.le_trans hwg.size hb, hs⟩
    intro xv hxv K hK
    obtain ⟨wx, _, hbx⟩ := hxv
    have hbo := hbx
    obtain ⟨b18, rfl, _⟩ := hbo
    go_simp
    refine hK _ ?_
    clear hK K hbx
    apply wpGrow_rel (V := VEmp 78 w.heap.size) rfl
    · intro wg hwg hf
      unfold grows
      go_simp
      exact ⟨(Below.refl _ _).alloc (Nat.le_refl _) _, _, rfl, Ow.made _ wg _ hwg.size rfl⟩
    intro xv hxv K hK
    obtain ⟨wx, _, hbx⟩ := hxv
    have hbo := hbx
    obtain ⟨g19, rfl, _⟩ := hbo
    go_simp
    refine hK _ ?_
    clear hK K hbx
    repeat (first
      | (apply wpGrow_skip rfl
         intro K hK
         go_simp
         refine hK _ ?_
         clear hK K)
      | (apply wpGrow_is rfl
         · intro wg hwg _
           have d4' := cell_later hwg d4
           unfold grows
           go_simp
           first
             | exact grows_value _ _
         intro K hK
         go_simp
         refine hK _ ?_
         clear hK K))
    apply wpGrow_rel (V := VOwn 78 w.heap.size vs) rfl
    · intro wg hwg hf
      have hb6 : VEmp 78 w.heap.size (.slice (some ⟨g19, 0, none⟩) 0 0) wg := hf ⟨18, .data⟩ (by simp) rfl _ _ (by kernel_rfl)
      obtain ⟨g', hg', ho⟩ := hb6
      obtain ⟨v', w', hrun, hown, hbl⟩ := run_append_new wg elemPn 47 ho ((HO.out.later hwg).sl) (by simp only [maxLen]; omega) (by omega) hwg.size
      exact grows_append (.tmp 21) (.tmp 25) rfl rfl rfl hrun hbl hown
    intro xv hxv K hK
    have hbo := hxv
    obtain ⟨wx, _, hbx⟩ := hbo
    obtain ⟨A26, c26, rfl, _⟩ := Ow.shape hbx
    go_simp
    refine hK _ ?_
    clear hK K hbx hxv
    apply wpGrow_rel (V := VCp w.heap.size D vs) rfl
    · intro wg hwg hf
      obtain ⟨b', hb', hb13⟩ : VSec w.heap.size D.view D.nv (.map (some b13)) wg := hf ⟨12, .data⟩ (by simp) rfl _ _ (by kernel_rfl)
      cases hb'
      obtain ⟨b', hb', hb18⟩ : VSec w.heap.size D.ground D.ng (.map (some b18)) wg := hf ⟨17, .data⟩ (by simp) rfl _ _ (by kernel_rfl)
      cases hb'
      have hb24 : VOwn 78 w.heap.size vs (.slice A26 vs.length c26) wg := hf ⟨23, .data⟩ (by simp) rfl _ _ (by kernel_rfl)
      unfold grows
      go_simp
      exact ⟨Below.refl _ _, b13, b18, _, rfl, hb13.1, hb18.1, hb13.2, hb18.2, hb24⟩
    intro xv hxv K hK
    obtain ⟨wx, _, hbx⟩ := hxv
    have hbo := hbx
    obtain ⟨bv, bg, sl, rfl, _⟩ := hbo
    go_simp
    refine hK _ ?_
    clear hK K hbx
    apply wpGrow_rel (V := VCb w.heap.size D vs) rfl
    · intro wg hwg hf
      obtain ⟨bv', bg', sl', hc1, hc2, hc3, hc4, hc5, hc6⟩ : VCp w.heap.size D vs (.agg #[.int .i64 D.size, .int .i64 D.limit, .map (some bv), .map (some bg), sl]) wg := hf ⟨24, .data⟩ (by simp) rfl _ _ (by kernel_rfl)
      cases hc1
      have qa := (Below.refl wg.heap.size wg).alloc (Nat.le_refl _) (.cells #[.int .i64 D.size, .int .i64 D.limit, .map (some bv), .map (some bg), sl] 49)
      unfold grows
      go_simp
      exact ⟨(Below.refl _ _).alloc (Nat.le_refl _) _, _, bv, bg, sl, rfl, hwg.size, Blk.new _ _ _, hc2, hc3, hc4.later qa, hc5.later qa, hc6.later qa⟩
    intro xv hxv K hK
    obtain ⟨wx, _, hbx⟩ := hxv
    have hbo := hbx
    obtain ⟨gn, _, _, _, rfl, _⟩ := hbo
    go_simp
    refine hK _ ?_
    clear hK K hbx
    apply wpGrow_rel (V := VCb w.heap.size D vs) rfl
    · intro wg hwg hf
      have hcb : VCb w.heap.size D vs (.pointer (some ⟨gn, 0, none⟩)) wg := hf ⟨25, .data⟩ (by simp) rfl _ _ (by kernel_rfl)
      unfold grows
      go_simp
      exact ⟨Below.refl _ _, hcb⟩
    intro xv hxv K hK
    obtain ⟨wx, _, hbx⟩ := hxv
    have hbo := hbx
    obtain ⟨gm, _, _, _, rfl, _⟩ := hbo
    go_simp
    refine hK _ ?_
    clear hK K hbx
    refine wpGrow_end (fun wg hwg hf => ?_)
    have hz : VCb w.heap.size D vs (.pointer (some ⟨gm, 0, none⟩)) wg := hf 26 _ _ (by kernel_rfl)
    clear hf
    go_wp2_with fail
    go_ret
    obtain ⟨g', bv', bg', sl', e1, h2, h3, h4, h5, h6, h7, h8⟩ := hz
    cases e1
    refine ⟨⟨gm, bv', bg', sl'⟩, rfl, ⟨h3, h6, h7, ?_, vs, h8.lower (Nat.zero_le _), HPL.out.keep fun _ _ h => h.later hwg⟩, fun b hb => ?_, hwg⟩
    · intro e
      obtain ⟨x, hx, hxn⟩ := HNE.out
      simp only at e
      subst e
      exact hxn (h6.alike h7 hx)
    · rcases hb with rfl | rfl | rfl | hb
      · exact h2
      · exact h4
      · exact h5
      · rcases h8.2 with ⟨hs, _⟩ | ⟨g1, _, _, hs, hB, _⟩
        · simp only at hb; rw [hs] at hb; cases hb
        · simp only at hb; rw [hs] at hb; injection hb with hb; subst hb; exact hB
  · apply And.intro
    · repeat (first | exact trivial | (refine ⟨Stays.is _, ?_⟩) | (refine ⟨Stays.sec _ _ _, ?_⟩) | (refine ⟨Stays.own _ _ _, ?_⟩) | (refine ⟨Stays.emp _ _, ?_⟩) | (refine ⟨Stays.cp _ _ _, ?_⟩) | (refine ⟨Stays.cb _ _ _, ?_⟩))
    · rfl
end Go.Proofs.YtojlldalhhibmaaDoor

namespace Go.Proofs.YtojlldalhhibmaaDoor
open Go Go.RowKit
set_option linter.unusedVariables false

/-- A disk that the call has made, since w. -/
structure Dp (w W : World) (h : Zn) (D : Dsk) : Prop where
  dk : Dk W h D
  new : ∀ b, h.has b → w.heap.size ≤ b
  below : Below w.heap.size w W
section
variable {w W W' : World} {h h' : Zn} {D D' : Dsk}
theorem Dp.stp (d : Dp w W h D) (s : Stp h W h' W') (k : Dk W' h' D') : Dp w W' h' D' :=
  ⟨k, fun b hb => (s.has b hb).elim (d.new b) (fun h => Nat.le_trans d.below.size h), Turn.below d.below s.turn d.below.size d.new⟩
theorem Dp.mtp (d : Dp w W h D) {g : Nat} (hg : w.heap.size ≤ g) (s : Mtp h g W h' W') (k : Dk W' h' D') : Dp w W' h' D' :=
  ⟨k, fun b hb => (s.has b hb).elim (d.new b) (fun h => Nat.le_trans d.below.size h), Turn.below d.below s.turn d.below.size fun b hb => hb.elim (d.new b) (fun e => by rw [e]; exact hg)⟩
theorem Dp.later (d : Dp w W h D) (hb : Below W.heap.size W W') : Dp w W' h D := ⟨d.dk.later hb, d.new, d.below.trans (hb.mono d.below.size)⟩
theorem Dp.alloc (d : Dp w W h D) (o : Obj) : Dp w (W.alloc o) h D := d.later ((Below.refl _ _).alloc (Nat.le_refl _) o)
/-- Another disk stays. -/
theorem Dk.apart {h2 : Zn} {D2 : Dsk} (d2 : Dk W h2 D2) (d : Dk W h D) (s : Stp h W h' W') (hne : ∀ b, h.has b → ¬ h2.has b) : Dk W' h2 D2 := by
  have key : ∀ b, h2.has b → W'.heap[b]? = W.heap[b]? := fun b hb => s.turn.block b (d2.lt hb) (fun hh => hne b hh hb)
  have hub : ∀ {B : Nat} {v : Value} {l : List UInt8}, Ub W B v l → Ub W' B v l := fun h => s.ub d h
  have hblk : ∀ {g : Nat} {t : TypeId} {cs : Array Value}, Blk W g t cs → t ≠ 49 → t ≠ 78 → Blk W' g t cs := fun h h1 h2 => s.blk d h h1 h2
  have hsec : ∀ {b n : Nat} {f : SF}, Secs W b f n → h2.has b → Secs W' b f n := by
    intro b n f hs hb
    obtain ⟨m, hm, hr⟩ := hs
    exact ⟨m, hm.at (key b hb), fun x hx => (hr x hx).keep fun _ _ h => hub h⟩
  obtain ⟨vs, ho, hp⟩ := d2.pend
  refine ⟨?_, hsec d2.view (.inr (.inl rfl)), hsec d2.ground (.inr (.inr (.inl rfl))), d2.ne, vs, ?_, hp.keep fun v p hv => ?_⟩
  · exact (key _ (.inl rfl)).trans d2.blk
  · refine ⟨ho.1, ?_⟩
    rcases ho.2 with h3 | ⟨g, cap, cur, hv, hB, hh, r⟩
    · exact .inl h3
    · refine .inr ⟨g, cap, cur, hv, hB, ?_, r⟩
      exact (key g (.inr (.inr (.inr (by rw [hv]; rfl))))).trans hh
  · cases p with
    | wr a b =>
      obtain ⟨ga, gb, A, c, h1, h3, h4, h5⟩ := hv
      exact ⟨ga, gb, A, c, h1, hblk h3 (by decide) (by decide), hblk h4 (by decide) (by decide), hub h5⟩
    | fr a =>
      obtain ⟨ga, h1, h3⟩ := hv
      exact ⟨ga, h1, hblk h3 (by decide) (by decide)⟩
end

section
variable {w W W' : World} {h h' : Zn} {D D' : Dsk} {g : Nat} {a : Int} {num : Nat} {last : Int} {body t : List UInt8}
theorem Mr.lastB (m : Mr D a num last body) : 0 ≤ last ∧ last ≤ 1 := by have := m.mi.l01; omega
theorem Mr.at (m : Mr D a num last body) : a ≤ 65534 := by have := m.a1; have := m.ok.size; omega
theorem dcrash_dp {S : Nat → Prop} {v : Value} {l : List (Int × Int)} (d : Dp w W h D) (hok : D.Ok) (hsv : Sv S W v l) (hin : ∀ x ∈ l, InI x.1 ∧ InI x.2) (hll : l.length ≤ 1000000) (hp : D.pend.length ≤ 1000000) {pg : Nat} (hpg : h.g = pg) :
    Calls Tryd.prog 16 #[.pointer (some ⟨pg, 0, none⟩), v] W fun e W' => e = .returned (.tuple #[]) ∧ ∃ h', Dp w W' h' (D.crash l) ∧ h'.g = pg ∧ Stp h W h' W' := by
  subst hpg
  refine (dcrash_any h D S v l W d.dk hok hsv hin hll (by omega)).mono ?_
  rintro e W' ⟨he, h', h1, h2⟩
  exact ⟨he, h', d.stp h2 h1, h2.g, h2⟩
theorem dcopy_dp (d : Dp w W h D) (hok : D.Ok) (hne : ∃ x, InI x ∧ (D.view x).isSome ≠ (D.ground x).isSome) (hp : D.pend.length ≤ 1000000) {pg : Nat} (hpg : h.g = pg) :
    Calls Tryd.prog 13 #[.pointer (some ⟨pg, 0, none⟩)] W fun e W' => ∃ h', e = .returned (.pointer (some ⟨h'.g, 0, none⟩)) ∧ Dp w W' h' D ∧ Dp w W' h D ∧ ∀ b, h.has b → ¬ h'.has b := by
  subst hpg
  refine (dcopy_any h D W d.dk hok hne hp).mono ?_
  rintro e W' ⟨h', he, h1, h2, h3⟩
  refine ⟨h', he, ⟨h1, fun b hb => Nat.le_trans d.below.size (h2 b hb), d.below.trans (h3.mono d.below.size)⟩, d.later h3, fun b hb hb' => ?_⟩
  have := d.dk.lt hb
  have := h2 b hb'
  omega
end
end Go.Proofs.YtojlldalhhibmaaDoor

namespace Go.Proofs.YtojlldalhhibmaaDoor
open Go Go.RowKit
set_option linter.unusedVariables false

theorem Stp.lb {h h' : Zn} {w w' : World} {D : Dsk} (s : Stp h w h' w') (d : Dk w h D) {gl hg : Nat} {a : Int} {n size : Nat} {lv sv : Value} {last synced : Nat} (hl : Lb w gl hg a n size lv sv last synced) : Lb w' gl hg a n size lv sv last synced := s.blk d hl (by decide) (by decide)
theorem Mtp.sameL {ks : List (Option TypeId)} {h h' : Zn} {w w' : World} {D : Dsk} {g : Nat} {t : TypeId} {cs : Array Value} (s : Mtp h g w h' w') (d : Dk w h D) (m : Blk w g t cs) (hk : some 49 ∉ ks) (h0 : none ∉ ks) (hp : some 78 ∉ ks) (hm : some t ∉ ks) : SameK ks w w' := fun b t' ht hb =>
  s.turn.block b (kind_lt hb) fun e => by
    rcases e with e | rfl
    · rcases d.kinds e with h3 | h3 | h3
      · exact SameK.not h3 hk hb ht
      · exact SameK.not h3 h0 hb ht
      · exact SameK.not h3 hp hb ht
    · exact SameK.not (kind_blk m) hm hb ht
theorem seg_mul {i size : Nat} (hi : i ≤ 64) (hs : size ≤ 64) : (0 : Int) ≤ (i : Int) * size ∧ (i : Int) * size ≤ 4096 := by
  constructor
  · exact Int.mul_nonneg (by omega) (by omega)
  · have : i * size ≤ 64 * 64 := Nat.mul_le_mul hi hs
    have e : ((i * size : Nat) : Int) = (i : Int) * size := by push_cast; rfl
    omega

set_option maxHeartbeats 4000000 in
set_option maxRecDepth 100000 in
theorem lgfree_any (h : Zn) (D : Dsk) (gl : Nat) (a : Int) (n size i : Nat) (lv sv : Value) (last synced : Nat) (w : World) (hd : Dk w h D) (hok : D.Ok) (hl : Lb w gl h.g a n size lv sv last synced) (hs : size ≤ 64) (hi : i ≤ 64) (h0 : 0 ≤ a) (h1 : a ≤ 65536) (hp : D.pend.length ≤ 900000) :
    Calls Tryd.prog 22 #[.pointer (some ⟨gl, 0, none⟩), .int .i64 (i : Int)] w fun e w' => e = .returned (.tuple #[]) ∧ ∃ h', Dk w' h' (wFree D (a + (i : Int) * size) size) ∧ Stp h w h' w' := by
  have HD := Lib.hid hd
  have HOK := Lib.hid hok
  have HL := Lib.hid hl
  have l3 : w.cell? ⟨gl, 3, none⟩ = some (.int .i64 (size : Int)) := hl.cell 3
  have hmul := seg_mul hi hs
  clear hd hok hl
  go_enter Tryd.func22, Tryd.ntmps22
  go_wp2_with fail
  clear l3
  go_loopw [9] (fun kv wr => ∃ (k : Nat) (h' : Zn), kv = .int .i64 (k : Int) ∧ k ≤ size ∧ Hid (Dk wr h' (wFree D (a + (i : Int) * size) k)) ∧ Hid (Stp h w h' wr)) (fun kv _ => size - (intOf kv).toNat)
  case atStart => exact ⟨0, h, rfl, Nat.zero_le _, HD, Stp.refl _ _⟩
  case round =>
    obtain ⟨k, h', rfl, hk, DK, ST⟩ := hrel
    by_cases hlt : k < size
    · have LR := Lib.hid (ST.out.lb HD.out HL.out)
      have l0 : wr.cell? ⟨gl, 0, none⟩ = some (.pointer (some ⟨h.g, 0, none⟩)) := LR.out.cell 0
      have l1 : wr.cell? ⟨gl, 1, none⟩ = some (.int .i64 a) := LR.out.cell 1
      have l3 : wr.cell? ⟨gl, 3, none⟩ = some (.int .i64 (size : Int)) := LR.out.cell 3
      have hw1 : IntKind.i64.wrap ((i : Int) * size) = (i : Int) * size := i64_in (by omega) (by omega)
      have hw2 : IntKind.i64.wrap (a + (i : Int) * size) = a + (i : Int) * size := i64_in (by omega) (by omega)
      have hw3 : IntKind.i64.wrap (a + (i : Int) * size + k) = a + (i : Int) * size + k := i64_in (by omega) (by omega)
      have hin : Hid (InI (a + (i : Int) * size + k)) := by rw [Hid]; unfold InI; omega
      have hpe := wFree_pend D (a + (i : Int) * size) k
      have HPE : Hid ((wFree D (a + (i : Int) * size) k).pend.length ≤ 1000000000) := by rw [Hid]; omega
      have HOKR := Lib.hid (wFree_ok HOK.out (a + (i : Int) * size) k)
      have HG := Lib.hid ST.out.g
      clear hpe
      go_wp2_with fail
      go_region_held3 (fun w' => w'.cell? ⟨gl, 0, none⟩ = some (.pointer (some ⟨h.g, 0, none⟩)) ∧ w'.cell? ⟨gl, 1, none⟩ = some (.int .i64 a) ∧ w'.cell? ⟨gl, 3, none⟩ = some (.int .i64 (size : Int)))
        (first
          | go_keep
          | exact ⟨LX.cell 0, LX.cell 1, LX.cell 3⟩
          | fail)
        ((first
          | (go_at_call 35; rw [← HG.out]; refine (dfree_any h' _ (a + (i : Int) * size + k) _ (DK.out.later (below_drewN (Below.refl _ _) 1)) HOKR.out hin.out HPE.out).mono ?_; rintro e w4 ⟨rfl, h4, hd4, hs4⟩; rw [HG.out]; have LX := hs4.blk (DK.out.later (below_drewN (Below.refl _ _) 1)) (LR.out.later (below_drewN (Below.refl _ _) 1)) (by decide) (by decide))))
      have D4 := Lib.hid hd4
      have S4 := Lib.hid (ST.out.trans ((Stp.below (below_drewN (Below.refl _ _) 1)).trans hs4))
      clear hd4 hs4 LX l0 l1 l3
      go_wp2_with fail
      go_roundw
      case rel => exact ⟨k + 1, h4, by go_num, by omega, D4, S4⟩
      case measure => simp [intOf]; omega
    · obtain rfl : k = size := by omega
      go_wp2_with fail
      go_end0
      exact ⟨rfl, h', DK.out, ST.out⟩
end Go.Proofs.YtojlldalhhibmaaDoor

namespace Go.Proofs.YtojlldalhhibmaaDoor
open Go Go.RowKit
set_option linter.unusedVariables false

/-- The log's own cell k is put. -/
theorem lg_put {w W : World} {h h' : Zn} {D D' : Dsk} {gl : Nat} {cs : Array Value} (hd : Dk W h' D') (hl : Blk W gl 54 cs) (m : Mtp h gl w h' W) (k : Nat) (u : Value) :
    Dk (W.setCell ⟨gl, k, none⟩ u) h' D' ∧ Blk (W.setCell ⟨gl, k, none⟩ u) gl 54 (cs.setIfInBounds k u) ∧ Mtp h gl w h' (W.setCell ⟨gl, k, none⟩ u) :=
  ⟨hd.same (SameK.setCell (p := ⟨gl, k, none⟩) hl (by decide) u), hl.put k u, m.g, m.turn.setCell (p := ⟨gl, k, none⟩) (.inl (.inr rfl)) u, m.has⟩

set_option maxHeartbeats 1000000 in
theorem lgsync_any (h : Zn) (D : Dsk) (gl : Nat) (a : Int) (n size : Nat) (lv sv : Value) (last synced : Nat) (w : World) (hd : Dk w h D) (hok : D.Ok) (hl : Lb w gl h.g a n size lv sv last synced) :
    Calls Tryd.prog 15 #[.pointer (some ⟨gl, 0, none⟩)] w fun e w' => e = .returned (.tuple #[]) ∧ ∃ h', Dk w' h' D.sync ∧ Lb w' gl h.g a n size lv sv last last ∧ Mtp h gl w h' w' := by
  have HD := Lib.hid hd
  have HL := Lib.hid hl
  have l0 : w.cell? ⟨gl, 0, none⟩ = some (.pointer (some ⟨h.g, 0, none⟩)) := hl.cell 0
  clear hd hl
  go_enter Tryd.func15, Tryd.ntmps15
  go_wp2_with fail
  refine (dsync_any h D w HD.out hok).mono ?_
  rintro e w4 ⟨rfl, h4, hd4, hs4⟩
  have D4 := Lib.hid hd4
  have S4 := Lib.hid hs4
  have L4 := Lib.hid (hs4.lb HD.out HL.out)
  have l6 : w4.cell? ⟨gl, 6, none⟩ = some (.int .u64 (last : Int)) := L4.out.cell 6
  have l7 : w4.cell? ⟨gl, 7, none⟩ = some (.int .u64 (synced : Int)) := L4.out.cell 7
  have f7 := L4.out.free 7
  clear hd4 hs4 l0
  go_wp2_with fail
  go_end0
  have := lg_put (D := D) D4.out L4.out (Mtp.of_stp S4.out) 7 (.int .u64 (last : Int))
  exact ⟨rfl, h4, this.1, this.2.1, this.2.2⟩
set_option maxHeartbeats 1000000 in
theorem lgroom_any (gl hg : Nat) (a : Int) (n size : Nat) (lv sv : Value) (last synced : Nat) (w : World) (hl : Lb w gl hg a n size lv sv last synced) (hs : size ≤ 64) :
    Calls Tryd.prog 24 #[.pointer (some ⟨gl, 0, none⟩)] w fun e w' => e = .returned (.int .i64 ((512 * size : Nat) : Int)) ∧ w = w' := by
  have l3 : w.cell? ⟨gl, 3, none⟩ = some (.int .i64 (size : Int)) := hl.cell 3
  have hw : IntKind.i64.wrap ((size : Int) * 512) = ((512 * size : Nat) : Int) := by rw [i64_in (by omega) (by omega)]; omega
  clear hl
  go_enter Tryd.func24, Tryd.ntmps24
  go_wp2_with fail
  go_ret
  exact ⟨rfl, rfl⟩
set_option maxHeartbeats 1000000 in
theorem lglast_any (gl hg : Nat) (a : Int) (n size : Nat) (lv sv : Value) (last synced : Nat) (w : World) (hl : Lb w gl hg a n size lv sv last synced) :
    Calls Tryd.prog 8 #[.pointer (some ⟨gl, 0, none⟩)] w fun e w' => e = .returned (.int .u64 (last : Int)) ∧ w = w' := by
  have l6 : w.cell? ⟨gl, 6, none⟩ = some (.int .u64 (last : Int)) := hl.cell 6
  clear hl
  go_enter Tryd.func8, Tryd.ntmps8
  go_wp2_with fail
  go_ret
  exact ⟨rfl, rfl⟩
set_option maxHeartbeats 1000000 in
theorem lgsynced_any (gl hg : Nat) (a : Int) (n size : Nat) (lv sv : Value) (last synced : Nat) (w : World) (hl : Lb w gl hg a n size lv sv last synced) :
    Calls Tryd.prog 10 #[.pointer (some ⟨gl, 0, none⟩)] w fun e w' => e = .returned (.int .u64 (synced : Int)) ∧ w = w' := by
  have l7 : w.cell? ⟨gl, 7, none⟩ = some (.int .u64 (synced : Int)) := hl.cell 7
  clear hl
  go_enter Tryd.func10, Tryd.ntmps10
  go_wp2_with fail
  go_ret
  exact ⟨rfl, rfl⟩
set_option maxHeartbeats 1000000 in
theorem lglive_any (gl hg : Nat) (a : Int) (n size : Nat) (lv sv : Value) (last synced : Nat) (live : List Sg) (w : World) (hl : Lb w gl hg a n size lv sv last synced) (hs : Rg3 w lv live) :
    Calls Tryd.prog 9 #[.pointer (some ⟨gl, 0, none⟩)] w fun e w' => e = .returned (.int .i64 (live.length : Int)) ∧ w = w' := by
  have l4 : w.cell? ⟨gl, 4, none⟩ = some lv := hl.cell 4
  obtain ⟨A, c, rfl, -⟩ := hs.at
  clear hl hs
  go_enter Tryd.func9, Tryd.ntmps9
  go_wp2_with fail
  go_ret
  exact ⟨rfl, rfl⟩
end Go.Proofs.YtojlldalhhibmaaDoor

namespace Go.Proofs.YtojlldalhhibmaaDoor
open Go Go.RowKit
set_option linter.unusedVariables false

theorem elemSg : Elem Tryd.prog 51 58 (.agg #[.int .i64 0, .int .u64 0, .int .u64 0]) 3 24 := Elem.mk' Tryd.underlying51 (by kernel_rfl) rfl (by omega)
theorem sgC_one (s : Sg) : ∀ y ∈ sgC s, y.oneCell' = true := by
  intro y hy
  simp only [sgC, List.mem_cons, List.not_mem_nil, or_false] at hy
  rcases hy with rfl | rfl | rfl <;> rfl
theorem sgcs_snoc (l : List Sg) (x : Sg) : sgcs (l ++ [x]) = sgcs l ++ sgC x := by simp [sgcs]
theorem Sl.newsg (w : World) (x : Sg) {g : Nat} (hg : g = w.heap.size) : Sl (fun _ => True) (w.alloc (.cells (sgC x).toArray 58)) 3 (.slice (some ⟨g, 0, none⟩) 1 1) 1 (sgC x) := by
  have := KSl.new w 58 3 (by omega) (sgC x).toArray 1 (by omega) (by simp [maxLen]) (by simp [sgC]) hg
  rw [List.toList_toArray] at this
  exact Sl.more this fun _ _ => trivial
theorem Rr.at {w : World} {v : Value} {l : List Rcd} (h : Rr w v l) : ∃ A c, v = .slice A l.length c ∧ l.length ≤ c ∧ c ≤ maxLen ∧
    (0 < l.length → ∃ b o, A = some ⟨b, o, none⟩ ∧ b < w.heap.size ∧ kindAt w b = some (some 41) ∧ ∀ j (hj : j < l.length), w.cell? ⟨b, o + j * 2, none⟩ = some (.int .u64 (l[j].1 : Int)) ∧ w.cell? ⟨b, o + j * 2 + 1, none⟩ = some (.string (st l[j].2))) := by
  obtain ⟨_, A, c, h2, h3, h4, h5, h6⟩ := h
  refine ⟨A, c, h2, h3, h4, fun hn => ?_⟩
  obtain ⟨b, o, ha, hs, hc⟩ := h6 hn
  refine ⟨b, o, ha, kind_lt hs, hs, fun j hj => ?_⟩
  have key : ∀ (l : List Rcd) (j : Nat) (hj : j < l.length), (rcs l)[j * 2]? = some (.int .u64 (l[j].1 : Int)) ∧ (rcs l)[j * 2 + 1]? = some (.string (st l[j].2)) := by
    intro l
    induction l with
    | nil => intro j hj; cases hj
    | cons r rs ih =>
      intro j hj
      rcases j with _ | j
      · exact ⟨rfl, rfl⟩
      · have := ih j (by simpa using hj)
        rw [show (j + 1) * 2 = j * 2 + 1 + 1 by omega]
        simpa [rcs] using this
  have := key l j hj
  exact ⟨hc _ _ this.1, by rw [Nat.add_assoc]; exact hc _ _ this.2⟩
def tkRecs (x : Fd) (frm : Nat) : List Rcd := x.recs.filter fun r => decide (frm < r.1)
theorem own_lower {e : TypeId} {size n B B' : Nat} {w : World} {v : Value} {xs : List Value} (h : w.ownsRow B e size v n xs) (hB : B' ≤ B) : w.ownsRow B' e size v n xs := by
  obtain ⟨h1, h2⟩ := h
  refine ⟨h1, ?_⟩
  rcases h2 with h2 | ⟨g, cap, cur, hv, hg, r⟩
  · exact .inl h2
  · exact .inr ⟨g, cap, cur, hv, Nat.le_trans hB hg, r⟩
def TkPost (gl hg : Nat) (a : Int) (n size : Nat) (sv : Value) (synced : Nat) (live : List Sg) (x : Fd) (frm B : Nat) (w : World) (e : Ending) (w' : World) : Prop :=
  ∃ A k c A' k' c', e = .returned (.slice A k c) ∧ w'.ownsRow w.heap.size 41 2 (.slice A k c) (tkRecs x frm).length (rcs (tkRecs x frm)) ∧ Lb w' gl hg a n size (.slice A' k' c') sv x.last synced ∧
    w'.ownsRow B 58 3 (.slice A' k' c') (live.length + 1) (sgcs (live ++ [x.sg])) ∧ Below B w w' ∧ SameK [some 60, some 41, some 30] w w'

theorem u64_pred (m : Nat) : IntKind.u64.wrap ((m : Int) - 1) = (((m + (U64 - 1)) % U64 : Nat) : Int) := by
  simp only [IntKind.wrap, IntKind.bits, IntKind.signed]
  unfold U64
  simp
  omega
theorem fd_last (x : Fd) : x.last = (((x.base + x.recs.length) % U64) + (U64 - 1)) % U64 := by
  unfold Fd.last
  rw [Nat.mod_add_mod]
/-- What holds behind the segment's append. -/
structure TkC (gl hg : Nat) (a : Int) (n size : Nat) (sv : Value) (last synced : Nat) (live : List Sg) (x : Sg) (cs : Array Value) (B : Nat) (w : World) (A : Option Addr) (k c : Nat) (W : World) : Prop where
  lb : Lb W gl hg a n size (.slice A k c) sv last synced
  own : W.ownsRow B 58 3 (.slice A k c) (live.length + 1) (sgcs (live ++ [x]))
  box : Blk W w.heap.size 60 cs
  below : Below B w W
  same : SameK [some 60, some 41, some 30] w W
  size : w.heap.size < W.heap.size
theorem TkC.drew {gl hg : Nat} {a : Int} {n size : Nat} {sv : Value} {last synced : Nat} {live : List Sg} {x : Sg} {cs : Array Value} {B : Nat} {w : World} {A : Option Addr} {k c : Nat} {W : World} (t : TkC gl hg a n size sv last synced live x cs B w A k c W) : TkC gl hg a n size sv last synced live x cs B w A k c W.drew :=
  ⟨t.lb, t.own, t.box, t.below.drew, t.same.trans (SameK.drew W), t.size⟩
theorem tk_one {gl hg : Nat} {a : Int} {n size : Nat} {sv : Value} {last synced : Nat} {live : List Sg} {x : Sg} {cs : Array Value} {B : Nat} {w w1 w2 : World} {A A2 : Option Addr} {k c k2 c2 : Nat} {o : Obj} {u : List Value} (hB : B ≤ w.heap.size) (hBg : B ≤ gl) (hl : Lb w1 gl hg a n size (.slice A k c) sv last synced) (hown : w1.ownsRow B 58 3 (.slice A k c) live.length (sgcs live))
    (hb : Blk w1 w.heap.size 60 cs) (h1 : Below w.heap.size w w1) (hs : w.heap.size < w1.heap.size) (hx : sgC x = u) (hown2 : w2.ownsRow B 58 3 (.slice A2 k2 c2) (live.length + 1) (sgcs live ++ u)) (hgr : (w1.alloc o).grownBy w2 (Value.slice A k c).ownBlock) :
    TkC gl hg a n size sv last synced live x cs B w A2 k2 c2 (w2.setCell ⟨gl, 4, none⟩ (.slice A2 k2 c2)) := by
  have qa := (Below.refl w1.heap.size w1).alloc (Nat.le_refl _) o
  have ho := World.ownsRow.alloc hown o
  have hl2 : Blk w2 gl _ _ := (hl.alloc o).kept ho hgr (by decide)
  have hb2 : Blk w2 w.heap.size _ _ := (hb.alloc o).kept ho hgr (by decide)
  have hne := hb2.ne hl2 (by decide)
  subst hx
  refine ⟨hl2.put 4 _, ?_, hb2.far (p := ⟨gl, 4, none⟩) hne _, ?_, ?_, ?_⟩
  · rw [sgcs_snoc]
    exact own_set hown2 hl2 (by decide) 4 _
  · exact (below_grown_own (((h1.mono hB).trans (qa.mono (Nat.le_trans hB (Nat.le_of_lt hs))))) ho hgr (Nat.le_trans (Nat.le_trans hB (Nat.le_of_lt hs)) qa.size)).setCell hBg _
  · refine (((SameK.below h1).trans (SameK.below qa)).trans (SameK.grown hgr fun z t hz ht => ?_)).trans (SameK.setCell (p := ⟨gl, 4, none⟩) hl2 (by decide) _)
    have := kind_own ho hz
    rw [this] at ht
    cases ht
    decide
  · have h3 : (w1.alloc o).heap.size ≤ w2.heap.size := hgr.size
    have h4 := qa.size
    simp
    omega

set_option maxHeartbeats 4000000 in
set_option maxRecDepth 100000 in
theorem lgtake_any (gl hg : Nat) (a : Int) (n size : Nat) (lv sv : Value) (last synced : Nat) (live : List Sg) (x : Fd) (rv : Value) (frm B : Nat) (w : World) (hl : Lb w gl hg a n size lv sv last synced) (hown : w.ownsRow B 58 3 lv live.length (sgcs live)) (hB : B ≤ w.heap.size) (hBg : B ≤ gl)
    (hr : Rr w rv x.recs) (hlr : x.recs.length ≤ 1000000) (hxb : x.base < U64) (hlive : live.length ≤ 100) (hf : frm < U64) :
    Calls Tryd.prog 18 #[.pointer (some ⟨gl, 0, none⟩), .agg #[.int .i64 (x.at' : Int), .int .u64 (x.base : Int), .int .u64 (x.recs.length : Int), rv], .int .u64 (frm : Int)] w (TkPost gl hg a n size sv synced live x frm B w) := by
  obtain ⟨Ar, cr, rfl, hlc, hcm, hA⟩ := hr.at
  have HR := Lib.hid hr
  have HO := Lib.hid hown
  have HL := Lib.hid hl
  have hx3 : x.sg.count = x.recs.length := Nat.mod_eq_of_lt (by unfold U64; omega)
  have HX3 := Lib.hid hx3
  obtain ⟨Al, kl, cl, rfl⟩ := own_slice hown
  clear hr hl hA hx3
  have q1 : Below B w (w.alloc (.cells #[.int .i64 (x.at' : Int), .int .u64 (x.base : Int), .int .u64 (x.recs.length : Int), .slice Ar x.recs.length cr] 60)) := (Below.refl _ _).alloc hB _
  have hb := Blk.new w 60 #[.int .i64 (x.at' : Int), .int .u64 (x.base : Int), .int .u64 (x.recs.length : Int), .slice Ar x.recs.length cr]
  have qa := (Below.refl w.heap.size w).alloc (Nat.le_refl _) (.cells #[.int .i64 (x.at' : Int), .int .u64 (x.base : Int), .int .u64 (x.recs.length : Int), .slice Ar x.recs.length cr] 60)
  have hl1 : Blk _ gl _ _ := HL.out.later qa
  have HO1 := Lib.hid (own_later HO.out qa)
  have HR1 := Lib.hid (KSl.later HR.out qa)
  have hz1 : w.heap.size < (w.alloc (.cells #[.int .i64 (x.at' : Int), .int .u64 (x.base : Int), .int .u64 (x.recs.length : Int), .slice Ar x.recs.length cr] 60)).heap.size := by simp
  clear hown
  go_enter Tryd.func18, Tryd.ntmps18
  go_wp2_with fail
  generalize hw1 : w.alloc _ = w1 at *
  clear hw1
  have l4 : w1.cell? ⟨gl, 4, none⟩ = some (.slice Al kl cl) := hl1.cell 4
  have b0 : w1.cell? ⟨w.heap.size, 0, none⟩ = some (.int .i64 (x.at' : Int)) := hb.cell 0
  have b1 : w1.cell? ⟨w.heap.size, 1, none⟩ = some (.int .u64 (x.base : Int)) := hb.cell 1
  have b2 : w1.cell? ⟨w.heap.size, 2, none⟩ = some (.int .u64 (x.recs.length : Int)) := hb.cell 2
  have a4 : (w1.alloc (.cells #[.int .i64 (x.at' : Int), .int .u64 (x.base : Int), .int .u64 (x.recs.length : Int)] 58)).cell? ⟨gl, 4, none⟩ = some (.slice Al kl cl) := (hl1.alloc _).cell 4
  have HSG : Hid (sgC x.sg = [.int .i64 (x.at' : Int), .int .u64 (x.base : Int), .int .u64 (x.recs.length : Int)]) := by rw [Hid, sgC, HX3.out]; rfl
  have hs1 := Sl.newsg w1 x.sg rfl
  rw [HSG.out] at hs1
  have HS1 := Lib.hid hs1
  have HB1 := Lib.hid hb
  have HL1 := Lib.hid hl1
  have hone := Lib.hid (by have := sgC_one x.sg; rw [HSG.out] at this; exact this)
  clear hs1 hb hl1
  have HQA := Lib.hid qa
  clear qa
  go_cut [] (fun wx => ∃ A2 k2 c2, Hid (TkC gl hg a n size sv last synced live x.sg #[.int .i64 (x.at' : Int), .int .u64 (x.base : Int), .int .u64 (x.recs.length : Int), .slice Ar x.recs.length cr] B w A2 k2 c2 wx))
  case first =>
    go_region_law (refine step_append_sl (w1.alloc (.cells #[.int .i64 (x.at' : Int), .int .u64 (x.base : Int), .int .u64 (x.recs.length : Int)] 58)) (by first | exact ⟨0, rfl⟩ | exact ⟨1, rfl⟩ | exact ⟨2, rfl⟩ | exact ⟨3, rfl⟩) rfl (.tmp 14) (.tmp 17) elemSg rfl (World.ownsRow.alloc HO1.out _) HS1.out rfl rfl hone.out (by simp only [maxLen]; omega) (by omega) (by simp; omega) ?_; intro A2 k2 c2 w2 hown2 hg2; have hl2 := (HL1.out.alloc _).kept (World.ownsRow.alloc HO1.out _) hg2 (by decide); have g0 := hl2.free 4; have g2 := hl2.cell 4; simp [lgC] at g2)
    all_goals
      have TC := tk_one (hB := hB) (hBg := hBg) HL1.out HO1.out HB1.out HQA.out hz1 HSG.out hown2 hg2
      go_wp2_with fail
      go_meet
      first
        | exact ⟨A2, k2, c2, TC.drew⟩
        | exact ⟨A2, k2, c2, TC⟩
        | exact ⟨A2, k2, c2, TC.drew.drew⟩
  obtain ⟨A2, k2, c2, TC⟩ := hcut
  have HRC := Lib.hid (KSl.same HR.out TC.out.same (by decide))
  have l6 : wc.cell? ⟨gl, 6, none⟩ = some (.int .u64 (last : Int)) := TC.out.lb.cell 6
  have f6 := TC.out.lb.free 6
  have b1 : wc.cell? ⟨w.heap.size, 1, none⟩ = some (.int .u64 (x.base : Int)) := TC.out.box.cell 1
  have b2 : wc.cell? ⟨w.heap.size, 2, none⟩ = some (.int .u64 (x.recs.length : Int)) := TC.out.box.cell 2
  have b3 : wc.cell? ⟨w.heap.size, 3, none⟩ = some (.slice Ar x.recs.length cr) := TC.out.box.cell 3
  have hwa := u64_add x.base x.recs.length
  have hwb : IntKind.u64.wrap ((((x.base + x.recs.length) % U64 : Nat) : Int) - 1) = ((x.last : Nat) : Int) := by rw [u64_pred, fd_last]
  have hwb2 : IntKind.u64.wrap (((x.base : Int) + (x.recs.length : Int)) % (U64 : Int) - 1) = ((x.last : Nat) : Int) := by
    rw [← hwb]
    push_cast
    rfl
  have hgb : w.heap.size ≠ gl := TC.out.box.ne TC.out.lb (by decide)
  have L3 : Hid (Lb (wc.setCell ⟨gl, 6, none⟩ (.int .u64 (x.last : Int))) gl hg a n size (.slice A2 k2 c2) sv x.last synced) := TC.out.lb.put 6 _
  have O3 := Lib.hid (own_set TC.out.own TC.out.lb (by decide) 6 (.int .u64 (x.last : Int)))
  have Q3 := Lib.hid (TC.out.below.setCell (p := ⟨gl, 6, none⟩) hBg (.int .u64 (x.last : Int)))
  have K3 := Lib.hid (TC.out.same.trans (SameK.setCell (p := ⟨gl, 6, none⟩) TC.out.lb (by decide) (.int .u64 (x.last : Int))))
  have R3 := Lib.hid (KSl.same HRC.out (SameK.setCell (ks := [some 41]) (p := ⟨gl, 6, none⟩) TC.out.lb (by decide) (.int .u64 (x.last : Int))) (by decide))
  have Z3 : Hid (w.heap.size ≤ (wc.setCell ⟨gl, 6, none⟩ (.int .u64 (x.last : Int))).heap.size) := by have := TC.out.size; simp [Hid]; omega
  clear TC HRC HR HO HL HB1 HL1 HO1 HR1 HS1 hone HSG HX3 HQA q1 hz1 l4 b0 a4
  go_wp2_with fail
  generalize wc.setCell _ _ = w3 at *
  clear l6 f6 b1 b2 b3 hwa hwb hwb2 hgb
  have OB : Hid (w3.heap.size ≤ w3.heap.size) := Nat.le_refl _
  go_loopw [7, 35] (fun ov kv wr => ∃ (i : Nat) (A : Option Addr) (m c : Nat), ov = .slice A m c ∧ kv = .int .i64 (i : Int) ∧ i ≤ x.recs.length ∧ Hid (wr.ownsRow w3.heap.size 41 2 (.slice A m c) ((x.recs.take i).filter fun r => decide (frm < r.1)).length (rcs ((x.recs.take i).filter fun r => decide (frm < r.1)))) ∧ Hid (Below w3.heap.size w3 wr)) (fun _ kv _ => x.recs.length - (intOf kv).toNat)
  case atStart => exact ⟨0, none, 0, 0, rfl, rfl, Nat.zero_le _, World.ownsRow_nil _ _ _ _, Below.refl _ _⟩
  case round =>
    obtain ⟨i, A, m, c, rfl, rfl, hi, OW, BL⟩ := hrel
    by_cases hlt : i < x.recs.length
    · obtain ⟨A', c', he, _, _, hat⟩ := Rr.at (KSl.later R3.out BL.out)
      injection he with e1 _ e3
      subst e1 e3
      obtain ⟨b, o, rfl, hbl, hkb, hcell⟩ := hat (by omega)
      obtain ⟨r0, r1⟩ := hcell i hlt
      have HT : Hid (x.recs.take (i + 1) = x.recs.take i ++ [x.recs[i]]) := by rw [Hid, List.take_add_one, List.getElem?_eq_getElem hlt]; rfl
      have hlen : Hid (((x.recs.take i).filter fun r => decide (frm < r.1)).length ≤ 1000000) := by
        have h1 := List.length_filter_le (fun r : Rcd => decide (frm < r.1)) (x.recs.take i)
        rw [List.length_take] at h1
        rw [Hid]
        omega
      clear hcell hat
      generalize x.recs[i] = r at *
      obtain ⟨q, t⟩ := r
      simp only at r0 r1
      have QA := Lib.hid (BL.out.trans (((Below.refl wr.heap.size wr).alloc (Nat.le_refl _) (.cells #[.int .u64 (q : Int), .string (st t)] 41)).mono BL.out.size))
      have OA := Lib.hid (own_later OW.out ((Below.refl wr.heap.size wr).alloc (Nat.le_refl _) (.cells #[.int .u64 (q : Int), .string (st t)] 41)))
      by_cases hq : frm < q
      · have hq2 : (frm : Int) < (q : Int) := by omega
        have HF : Hid ((x.recs.take (i + 1)).filter (fun r => decide (frm < r.1)) = (x.recs.take i).filter (fun r => decide (frm < r.1)) ++ [(q, t)]) := by rw [Hid, HT.out, List.filter_append]; simp [hq]
        have HQ := Lib.hid hq
        generalize hF : (x.recs.take i).filter (fun r => decide (frm < r.1)) = F at *
        clear hF hq
        have hM1 : Hid (F.length + 1 ≤ maxLen) := by have := hlen.out; simp only [Hid, maxLen]; omega
        have hM2 : Hid ((F.length + 1) * 24 ≤ 140737488355328) := by have := hlen.out; rw [Hid]; omega
        have hM3 : Hid (∀ o o' : Obj, w3.heap.size ≤ ((wr.alloc o).alloc o').heap.size) := fun o o' => by have := BL.out.size; simp; omega
        go_wp2_with (at_builtin; refine wpList_append_sl _ rfl (.tmp 43) (.tmp 45) elemRec rfl (World.ownsRow.alloc OA.out _) (Sl.newrec (S := fun _ => True) (g := wr.heap.size + 1) _ (q, t) (by simp) trivial) rfl rfl (rcs_one _) hM1.out hM2.out (hM3.out _ _) ?_; intro A8 k8 c8 w8 hown8 hg8 hat8)
        have B8 := Lib.hid (below_grown_own (QA.out.alloc (Nat.le_trans QA.out.size (Nat.le_refl _)) _) (World.ownsRow.alloc OA.out _) hg8 (hM3.out _ _))
        have O8 : Hid (w8.ownsRow w3.heap.size 41 2 (.slice A8 k8 c8) ((x.recs.take (i + 1)).filter (fun r => decide (frm < r.1))).length (rcs ((x.recs.take (i + 1)).filter (fun r => decide (frm < r.1))))) := by
          rw [Hid, HF.out, List.length_append, rcs_append]
          exact hown8
        go_roundw
        case rel => exact ⟨i + 1, A8, k8, c8, rfl, by go_num, by omega, O8, B8⟩
        case measure => simp [intOf]; omega
      · have hq2 : (q : Int) ≤ (frm : Int) := by omega
        have HF : Hid ((x.recs.take (i + 1)).filter (fun r => decide (frm < r.1)) = (x.recs.take i).filter (fun r => decide (frm < r.1))) := by rw [Hid, HT.out, List.filter_append]; simp [hq]
        clear hq
        have OA2 : Hid ((wr.alloc (.cells #[.int .u64 (q : Int), .string (st t)] 41)).ownsRow w3.heap.size 41 2 (.slice A m c) ((x.recs.take (i + 1)).filter (fun r => decide (frm < r.1))).length (rcs ((x.recs.take (i + 1)).filter (fun r => decide (frm < r.1))))) := by
          rw [Hid, HF.out]; exact OA.out
        go_wp2_with fail
        go_roundw
        case rel => exact ⟨i + 1, A, m, c, rfl, by go_num, by omega, OA2, QA⟩
        case measure => simp [intOf]; omega
    · obtain rfl : i = x.recs.length := by omega
      have ho := OW.out
      rw [List.take_length] at ho
      go_wp2_with fail
      go_ret
      exact ⟨A, m, c, A2, k2, c2, rfl, own_lower ho Z3.out, L3.out.later BL.out, own_later O3.out BL.out, Q3.out.trans (BL.out.mono (Nat.le_trans hB Z3.out)), K3.out.trans (SameK.below BL.out)⟩
end Go.Proofs.YtojlldalhhibmaaDoor

namespace Go.Proofs.YtojlldalhhibmaaDoor
open Go Go.RowKit
set_option linter.unusedVariables false

def fdV (x : Fd × Value) : Value := .agg #[.int .i64 (x.1.at' : Int), .int .u64 (x.1.base : Int), .int .u64 (x.1.recs.length : Int), x.2]
theorem fcs_get : ∀ (l : List (Fd × Value)) (j : Nat) (hj : j < l.length), (fcs l)[j * 4]? = some (.int .i64 (l[j].1.at' : Int)) ∧ (fcs l)[j * 4 + 1]? = some (.int .u64 (l[j].1.base : Int)) ∧ (fcs l)[j * 4 + 2]? = some (.int .u64 (l[j].1.recs.length : Int)) ∧ (fcs l)[j * 4 + 3]? = some l[j].2
  | x :: xs, 0, _ => ⟨rfl, rfl, rfl, rfl⟩
  | x :: xs, j + 1, hj => by
    have h := fcs_get xs j (by simpa using hj)
    have e : fcs (x :: xs) = fdC x ++ fcs xs := rfl
    have g : ∀ k, (fcs (x :: xs))[(j + 1) * 4 + k]? = (fcs xs)[j * 4 + k]? := fun k => by
      rw [e, List.getElem?_append_right (by simp [fdC]; omega)]
      congr 1
      simp [fdC]
      omega
    refine ⟨?_, ?_, ?_, ?_⟩
    · rw [show (j + 1) * 4 = (j + 1) * 4 + 0 by omega, g]; exact h.1
    · rw [g]; exact h.2.1
    · rw [g]; exact h.2.2.1
    · rw [g]; exact h.2.2.2
theorem Fs.at {w : World} {B : Nat} {v : Value} {l : List (Fd × Value)} (h : Fs w B v l) : ∃ A c, v = .slice A l.length c ∧ l.length ≤ c ∧ c ≤ maxLen ∧
    (0 < l.length → ∃ b o, A = some ⟨b, o, none⟩ ∧ b < w.heap.size ∧ kindAt w b = some (some 60) ∧ ∀ j (hj : j < l.length), w.cell? ⟨b, o + j * 4, none⟩ = some (.int .i64 (l[j].1.at' : Int)) ∧ w.cell? ⟨b, o + j * 4 + 1, none⟩ = some (.int .u64 (l[j].1.base : Int)) ∧
      w.cell? ⟨b, o + j * 4 + 2, none⟩ = some (.int .u64 (l[j].1.recs.length : Int)) ∧ w.cell? ⟨b, o + j * 4 + 3, none⟩ = some l[j].2) := by
  obtain ⟨_, A, c, h2, h3, h4, h5, h6⟩ := KSl.of_own (by omega) h.own
  refine ⟨A, c, h2, h3, h4, fun hn => ?_⟩
  obtain ⟨b, o, ha, hs, hc⟩ := h6 hn
  refine ⟨b, o, ha, kind_lt hs, hs, fun j hj => ?_⟩
  have hg := fcs_get l j hj
  refine ⟨hc _ _ hg.1, ?_, ?_, ?_⟩
  · rw [Nat.add_assoc]; exact hc _ _ hg.2.1
  · rw [Nat.add_assoc]; exact hc _ _ hg.2.2.1
  · rw [Nat.add_assoc]; exact hc _ _ hg.2.2.2

def goesOn (live : List Sg) (last : Nat) (x : Fd) : Bool := decide (x.base = (last + 1) % U64) && !usedL live x.at'
set_option maxHeartbeats 4000000 in
set_option maxRecDepth 100000 in
theorem open1_any (x : Fd × Value) (gp gl hg : Nat) (a : Int) (n size : Nat) (lv sv : Value) (last synced : Nat) (live : List Sg) (w : World) (hp : Blk w gp 30 #[.pointer (some ⟨gl, 0, none⟩)]) (hl : Lb w gl hg a n size lv sv last synced) (hs : Rg3 w lv live) :
    Calls Tryd.prog 20 #[fdV x, .pointer (some ⟨gp, 0, none⟩)] w fun e w' => e = .returned (.bool (goesOn live last x.1)) ∧ Below w.heap.size w w' := by
  obtain ⟨x, rv⟩ := x
  unfold fdV
  simp only
  have qa := (Below.refl w.heap.size w).alloc (Nat.le_refl _) (.cells #[.int .i64 (x.at' : Int), .int .u64 (x.base : Int), .int .u64 (x.recs.length : Int), rv] 60)
  have HB := Lib.hid (Blk.new w 60 #[.int .i64 (x.at' : Int), .int .u64 (x.base : Int), .int .u64 (x.recs.length : Int), rv])
  have HP := Lib.hid (hp.later qa)
  have HL : Hid (Lb (w.alloc (.cells #[.int .i64 (x.at' : Int), .int .u64 (x.base : Int), .int .u64 (x.recs.length : Int), rv] 60)) gl hg a n size lv sv last synced) := hl.later qa
  have HS := Lib.hid (KSl.later hs qa)
  have HQ := Lib.hid qa
  have hwr : IntKind.u64.wrap ((last : Int) + 1) = (((last + 1) % U64 : Nat) : Int) := by have := u64_add last 1; simpa using this
  clear hp hl hs qa
  obtain ⟨m, hm⟩ : ∃ m, (last + 1) % U64 = m := ⟨_, rfl⟩
  rw [hm] at hwr
  by_cases hx : x.base = m
  · have hg : goesOn live last x = !usedL live x.at' := by unfold goesOn; rw [hm, decide_eq_true hx, Bool.true_and]
    rw [hg]
    clear hg hm
    subst hx
    go_enter Tryd.func20, Tryd.ntmps20
    go_wp2_with fail
    generalize w.alloc _ = w1 at *
    have HW := Lib.hid HQ.out.size
    have b0 : w1.cell? ⟨w.heap.size, 0, none⟩ = some (.int .i64 (x.at' : Int)) := HB.out.cell 0
    have b1 : w1.cell? ⟨w.heap.size, 1, none⟩ = some (.int .u64 (x.base : Int)) := HB.out.cell 1
    have p0 : w1.cell? ⟨gp, 0, none⟩ = some (.pointer (some ⟨gl, 0, none⟩)) := HP.out.cell 0
    have l6 : w1.cell? ⟨gl, 6, none⟩ = some (.int .u64 (last : Int)) := HL.out.cell 6
    refine wp_region_grow_lit (by kernel_rfl) (by kernel_rfl) ?_
    apply Exists.intro
    apply And.intro
    · repeat (first
        | (apply wpGrow_skip rfl
           intro K hK
           go_simp
           refine hK _ ?_
           clear hK K)
        | (apply wpGrow_is rfl
           · intro wg hwg _
             have c0 := cell_later hwg b0
             have c1 := cell_later hwg b1
             have c2 := cell_later hwg p0
             have c3 := cell_later hwg l6
             unfold grows
             go_simp
             first
               | exact grows_value _ _
               | (exact grows_call (lgused_any gl hg a n size x.at' lv sv last synced live wg (HL.out.later hwg) (KSl.later HS.out hwg)))
           intro K hK
           go_simp
           refine hK _ ?_
           clear hK K))
      refine wpGrow_end (fun wg hwg _ => ?_)
      have qq := Lib.hid (HQ.out.trans (hwg.mono HW.out))
      clear b0 b1 p0 l6 hwr
      go_wp2_with fail
      go_ret
      exact ⟨rfl, qq.out⟩
    · apply And.intro
      · repeat (first | exact trivial | (refine ⟨Stays.is _, ?_⟩) | (refine ⟨Stays.bs _, ?_⟩) | (refine ⟨Stays.pg _ _ _, ?_⟩))
      · rfl
  · have hg : goesOn live last x = false := by unfold goesOn; rw [hm, decide_eq_false hx, Bool.false_and]
    have hxe : ((x.base : Int) == (m : Int)) = false := by rw [beq_eq_false_iff_ne]; omega
    rw [hg]
    clear hg hm hx
    go_enter Tryd.func20, Tryd.ntmps20
    go_wp2_with fail
    generalize w.alloc _ = w1 at *
    have HW := Lib.hid HQ.out.size
    have b0 : w1.cell? ⟨w.heap.size, 0, none⟩ = some (.int .i64 (x.at' : Int)) := HB.out.cell 0
    have b1 : w1.cell? ⟨w.heap.size, 1, none⟩ = some (.int .u64 (x.base : Int)) := HB.out.cell 1
    have p0 : w1.cell? ⟨gp, 0, none⟩ = some (.pointer (some ⟨gl, 0, none⟩)) := HP.out.cell 0
    have l6 : w1.cell? ⟨gl, 6, none⟩ = some (.int .u64 (last : Int)) := HL.out.cell 6
    refine wp_region_grow_lit (by kernel_rfl) (by kernel_rfl) ?_
    apply Exists.intro
    apply And.intro
    · repeat (first
        | (apply wpGrow_skip rfl
           intro K hK
           go_simp
           refine hK _ ?_
           clear hK K)
        | (apply wpGrow_is rfl
           · intro wg hwg _
             have c0 := cell_later hwg b0
             have c1 := cell_later hwg b1
             have c2 := cell_later hwg p0
             have c3 := cell_later hwg l6
             unfold grows
             go_simp
             first
               | exact grows_value _ _
               | (exact grows_call (lgused_any gl hg a n size x.at' lv sv last synced live wg (HL.out.later hwg) (KSl.later HS.out hwg)))
           intro K hK
           go_simp
           refine hK _ ?_
           clear hK K))
      refine wpGrow_end (fun wg hwg _ => ?_)
      have qq := Lib.hid (HQ.out.trans (hwg.mono HW.out))
      clear b0 b1 p0 l6 hwr
      go_wp2_with fail
      go_ret
      exact ⟨rfl, qq.out⟩
    · apply And.intro
      · repeat (first | exact trivial | (refine ⟨Stays.is _, ?_⟩) | (refine ⟨Stays.bs _, ?_⟩) | (refine ⟨Stays.pg _ _ _, ?_⟩))
      · rfl
end Go.Proofs.YtojlldalhhibmaaDoor

namespace Go.Proofs.YtojlldalhhibmaaDoor
open Go Go.RowKit
set_option linter.unusedVariables false

theorem find_take {α : Type} {p : α → Bool} {l : List α} {k : Nat} (hk : k < l.length) (h : (l.take k).find? p = none) : (l.take (k + 1)).find? p = if p l[k] then some l[k] else none := by
  rw [List.take_add_one, List.getElem?_eq_getElem hk, List.find?_append, h]
  simp [List.find?_cons]
  split <;> simp_all
theorem find_hit {α : Type} {p : α → Bool} {l : List α} {k : Nat} (hk : k < l.length) (h : (l.take k).find? p = none) (hp : p l[k] = true) : l.find? p = some l[k] := by
  conv => lhs; rw [← List.take_append_drop (k + 1) l]
  rw [List.find?_append, find_take hk h, if_pos hp]
  rfl
/-- What IndexFunc finds. -/
def FdAt (L : List (Fd × Value)) (live : List Sg) (last : Nat) (r : Int) : Prop :=
  (r = -1 ∧ wNext (L.map Prod.fst) live last = none) ∨ ∃ (j : Nat) (hj : j < L.length), r = (j : Int) ∧ wNext (L.map Prod.fst) live last = some L[j].1
theorem wNext_eq (all : List Fd) (live : List Sg) (last : Nat) : wNext all live last = all.find? (goesOn live last) := rfl

set_option maxHeartbeats 4000000 in
set_option maxRecDepth 100000 in
theorem fdindex_any (B : Nat) (v : Value) (L : List (Fd × Value)) (gp gl hg : Nat) (a : Int) (n size : Nat) (lv sv : Value) (last synced : Nat) (live : List Sg) (w : World) (hp : Blk w gp 30 #[.pointer (some ⟨gl, 0, none⟩)]) (hl : Lb w gl hg a n size lv sv last synced) (hs : Rg3 w lv live) (hv : Fs w B v L) :
    Calls Tryd.prog 19 #[v, .func (Fn.func 20) #[] #[.pointer (some ⟨gp, 0, none⟩)]] w fun e w' => ∃ r : Int, e = .returned (.int .i64 r) ∧ FdAt L live last r ∧ Below w.heap.size w w' := by
  obtain ⟨A, c, rfl, hlc, hcm, hA⟩ := hv.at
  have HA := Lib.hid hA
  have HP := Lib.hid hp
  have HL := Lib.hid hl
  have HS := Lib.hid hs
  have hm : L.length ≤ 9223372036854775807 := by unfold maxLen at hcm; omega
  clear hp hl hs hv hA
  go_enter Tryd.func19, Tryd.ntmps19
  go_wp2_with fail
  go_loopw [8] (fun kv wr => ∃ k : Nat, kv = .int .i64 (k : Int) ∧ k ≤ L.length ∧ Hid (((L.map Prod.fst).take k).find? (goesOn live last) = none) ∧ Hid (Below w.heap.size w wr)) (fun kv _ => L.length - (intOf kv).toNat)
  case atStart => exact ⟨0, rfl, Nat.zero_le _, rfl, Below.refl _ _⟩
  case round =>
    obtain ⟨k, rfl, hk, HU, BL⟩ := hrel
    by_cases hlt : k < L.length
    · obtain ⟨b, o, rfl, hbl, hkb, hcell⟩ := HA.out (by omega)
      obtain ⟨k0, k1, k2, k3⟩ := hcell k hlt
      have x0 := (BL.out.cell (p := ⟨b, o + k * 4, none⟩) hbl).trans k0
      have x1 := (BL.out.cell (p := ⟨b, o + k * 4 + 1, none⟩) hbl).trans k1
      have x2 := (BL.out.cell (p := ⟨b, o + k * 4 + 2, none⟩) hbl).trans k2
      have x3 := (BL.out.cell (p := ⟨b, o + k * 4 + 3, none⟩) hbl).trans k3
      have hlm : k < (L.map Prod.fst).length := by rw [List.length_map]; exact hlt
      have hgm : (L.map Prod.fst)[k] = L[k].1 := by simp
      have HT : Hid (((L.map Prod.fst).take (k + 1)).find? (goesOn live last) = if goesOn live last L[k].1 then some L[k].1 else none) := by
        have := find_take hlm HU.out
        rw [hgm] at this
        exact this
      have HH : Hid (goesOn live last L[k].1 = true → wNext (L.map Prod.fst) live last = some L[k].1) := fun h => by
        have := find_hit hlm HU.out (by rw [hgm]; exact h)
        rw [hgm] at this
        exact this
      have HF : Hid (∀ r : Int, r = (k : Int) → goesOn live last L[k].1 = true → FdAt L live last r) := fun r hr h => .inr ⟨k, hlt, hr, HH.out h⟩
      clear hcell k0 k1 k2 k3 hgm HH
      generalize L[k] = x at *
      obtain ⟨x, rv⟩ := x
      simp only at x0 x1 x2 x3
      go_wp2_with fail
      refine (open1_any (x, rv) gp gl hg a n size lv sv last synced live wr (HP.out.later BL.out) (HL.out.later BL.out) (KSl.later HS.out BL.out)).mono ?_
      rintro e w4 ⟨rfl, hb4⟩
      have B4 := Lib.hid (BL.out.trans (hb4.mono BL.out.size))
      simp only at HF HT ⊢
      cases hgo : goesOn live last x with
      | true =>
        have HR := Lib.hid (HF.out _ rfl hgo)
        clear hgo HF HT x0 x1 x2 x3
        go_wp2_with fail
        go_ret
        exact ⟨_, rfl, HR.out, B4.out⟩
      | false =>
        have HU2 : Hid (((L.map Prod.fst).take (k + 1)).find? (goesOn live last) = none) := by
          have := HT.out
          rw [hgo] at this
          exact this
        clear hgo HF HT x0 x1 x2 x3
        go_wp2_with fail
        go_roundw
        case rel => exact ⟨k + 1, by go_num, by omega, HU2, B4⟩
        case measure => simp [intOf]; omega
    · obtain rfl : k = L.length := by omega
      have hu := HU.out
      rw [List.take_of_length_le (by simp)] at hu
      go_wp2_with fail
      go_ret
      exact ⟨_, rfl, .inl ⟨rfl, hu⟩, BL.out⟩
end Go.Proofs.YtojlldalhhibmaaDoor

namespace Go.Proofs.YtojlldalhhibmaaDoor
open Go
set_option linter.unusedVariables false

theorem nodup_len : ∀ (n : Nat) (l : List Nat), l.Nodup → (∀ x ∈ l, x < n) → l.length ≤ n
  | 0, l, _, h => by
    cases l with
    | nil => simp
    | cons a l => have := h a (by simp); omega
  | n + 1, l, hd, h => by
    by_cases hm : n ∈ l
    · have h1 := nodup_len n (l.erase n) (hd.erase n) (fun x hx => by
        have h2 := (hd.mem_erase_iff).1 hx
        have := h x h2.2
        have := h2.1
        omega)
      rw [List.length_erase_of_mem hm] at h1
      omega
    · have := nodup_len n l hd (fun x hx => by
        have h2 := h x hx
        have : x ≠ n := fun e => hm (e ▸ hx)
        omega)
      omega

/-- Behind some segments of the chain. -/
structure ChSt (all : List Fd) (frm n : Nat) (live : List Sg) (last : Nat) (out : List Rcd) (nx : Option Fd) : Prop where
  eq : ∃ k, live.length + k = n + 1 ∧ wChain all frm k live last out nx = wChain all frm (n + 1) [] frm [] (wPick frm all none)
  nd : (live.map (·.at')).Nodup
  lt : ∀ s ∈ live, s.at' < n
  nx : ∀ x, nx = some x → usedL live x.at' = false ∧ x ∈ all
  out : out.length ≤ live.length * 40000
  last : last < U64
theorem ChSt.start {all : List Fd} {frm n : Nat} (hf : frm < U64) : ChSt all frm n [] frm [] (wPick frm all none) :=
  ⟨⟨n + 1, by simp, rfl⟩, by simp, by simp, fun x h => ⟨rfl, (wPick_mem frm _ _ h).resolve_right (by simp)⟩, by simp, hf⟩
theorem ChSt.len {all : List Fd} {frm n : Nat} {live : List Sg} {last : Nat} {out : List Rcd} {nx : Option Fd} (s : ChSt all frm n live last out nx) : live.length ≤ n := by
  have := nodup_len n (live.map (·.at')) s.nd (fun x hx => by
    obtain ⟨y, hy, rfl⟩ := List.mem_map.1 hx
    exact s.lt y hy)
  simpa using this
theorem ChSt.next {all : List Fd} {frm n : Nat} {live : List Sg} {last : Nat} {out : List Rcd} {x : Fd} (s : ChSt all frm n live last out (some x)) (hall : ∀ y ∈ all, y.at' < n ∧ y.recs.length ≤ 40000) :
    ChSt all frm n (live ++ [x.sg]) x.last (out ++ x.recs.filter fun r => decide (frm < r.1)) (wNext all (live ++ [x.sg]) x.last) := by
  obtain ⟨k, hk, he⟩ := s.eq
  obtain ⟨hu, hx⟩ := s.nx x rfl
  have hxn := hall x hx
  have hnd : ((live ++ [x.sg]).map (·.at')).Nodup := by
    rw [List.map_append, List.nodup_append]
    refine ⟨s.nd, by simp, fun a ha b hb => ?_⟩
    simp only [List.map_cons, List.map_nil, List.mem_singleton] at hb
    subst hb
    rintro rfl
    obtain ⟨y, hy, e⟩ := List.mem_map.1 ha
    have : usedL live x.at' = true := usedL_iff.2 ⟨y, hy, e⟩
    rw [hu] at this
    cases this
  have hlt : ∀ s ∈ live ++ [x.sg], s.at' < n := fun y hy => by
    rw [List.mem_append, List.mem_singleton] at hy
    rcases hy with hy | rfl
    · exact s.lt y hy
    · exact hxn.1
  have hl := nodup_len n _ hnd (fun z hz => by
    obtain ⟨y, hy, rfl⟩ := List.mem_map.1 hz
    exact hlt y hy)
  rw [List.length_map, List.length_append, List.length_singleton] at hl
  obtain ⟨k, rfl⟩ : ∃ j, k = j + 1 := ⟨k - 1, by omega⟩
  refine ⟨⟨k, by rw [List.length_append, List.length_singleton]; omega, ?_⟩, hnd, hlt, fun y hy => ?_, ?_, ?_⟩
  · rw [← he, wChain]
  · have := wNext_some hy
    exact ⟨this.2.2, this.1⟩
  · have h1 := List.length_filter_le (fun r : Rcd => decide (frm < r.1)) x.recs
    have h2 := s.out
    rw [List.length_append, List.length_append, List.length_singleton]
    omega
  · exact Nat.mod_lt _ (by unfold U64; omega)
theorem ChSt.end {all : List Fd} {frm n : Nat} {live : List Sg} {last : Nat} {out : List Rcd} (s : ChSt all frm n live last out none) : wChain all frm (n + 1) [] frm [] (wPick frm all none) = (live, last, out) := by
  obtain ⟨k, _, he⟩ := s.eq
  rw [← he]
  cases k <;> rfl
end Go.Proofs.YtojlldalhhibmaaDoor

namespace Go.Proofs.YtojlldalhhibmaaDoor
open Go Go.RowKit
set_option linter.unusedVariables false

theorem own_sameK {ks : List (Option TypeId)} {e : TypeId} {size n B : Nat} {w w' : World} {v : Value} {xs : List Value} (h : w.ownsRow B e size v n xs) (hs : SameK ks w w') (ht : some e ∈ ks) : w'.ownsRow B e size v n xs := by
  have hk := fun b => kind_own (b := b) h
  obtain ⟨h1, h2⟩ := h
  refine ⟨h1, ?_⟩
  rcases h2 with h2 | ⟨g, cap, cur, hv, hg, hh, r⟩
  · exact .inl h2
  · exact .inr ⟨g, cap, cur, hv, hg, (hs g _ ht (hk g (by rw [hv]; rfl))).trans hh, r⟩
def opKs : List (Option TypeId) := [some 60, some 41, some 30]
theorem Fs.same {w w' : World} {B : Nat} {v : Value} {L : List (Fd × Value)} (h : Fs w B v L) (hs : SameK opKs w w') : Fs w' B v L :=
  ⟨own_sameK h.own hs (by decide), fun x hx => ⟨KSl.same (h.recs x hx).1 hs (by decide), (h.recs x hx).2⟩⟩
theorem wLook_lt {f : SF} {a : Int} {size i q : Nat} {rs : List Rcd} (h : wLook f a size i = some (q, rs)) : q < U64 := by
  unfold wLook wLookB at h
  split at h
  · rename_i hg
    split at h
    · injection h with h
      injection h with h
      subst h
      exact recGet_lt' hg
    · cases h
  · cases h
/-- Open's state behind some segments of the chain (w9: the world ahead of the chain). -/
structure OpSt (w w9 wr : World) (hg : Nat) (a : Int) (n size : Nat) (lv : Value) (live : List Sg) (last : Nat) (ov : Value) (out : List Rcd) : Prop where
  lb : Lb wr w.heap.size hg a n size lv (.slice none 0 0) last 0
  gp : Blk wr (w.heap.size + 1) 30 #[.pointer (some ⟨w.heap.size, 0, none⟩)]
  lown : wr.ownsRow w.heap.size 58 3 lv live.length (sgcs live)
  same : SameK opKs w9 wr
  oown : wr.ownsRow w9.heap.size 41 2 ov out.length (rcs out)
  size : w9.heap.size ≤ wr.heap.size
  base : w.heap.size ≤ w9.heap.size
  below : Below w.heap.size w wr
section
variable {w w9 wr w2 w3 w4 : World} {hg : Nat} {a : Int} {n size : Nat} {lv lv' : Value} {live : List Sg} {last : Nat} {ov v4 : Value} {out tk : List Rcd}
theorem OpSt.later (s : OpSt w w9 wr hg a n size lv live last ov out) (hb : Below wr.heap.size wr w2) : OpSt w w9 w2 hg a n size lv live last ov out :=
  ⟨s.lb.later hb, s.gp.later hb, own_later s.lown hb, s.same.trans (SameK.below hb), own_later s.oown hb, Nat.le_trans s.size hb.size, s.base, s.below.trans (hb.mono s.below.size)⟩
theorem OpSt.drew (s : OpSt w w9 wr hg a n size lv live last ov out) : OpSt w w9 wr.drew hg a n size lv live last ov out := s.later (below_drewN (Below.refl _ _) 1)
theorem OpSt.next {x : Fd} (s : OpSt w w9 w2 hg a n size lv live last ov out) (hl3 : Lb w3 w.heap.size hg a n size lv' (.slice none 0 0) x.last 0) (hlo : w3.ownsRow w.heap.size 58 3 lv' (live.length + 1) (sgcs (live ++ [x.sg])))
    (hb : Below w.heap.size w2 w3) (hk : SameK opKs w2 w3) (hown4 : w4.ownsRow w9.heap.size 41 2 v4 (out.length + tk.length) (rcs out ++ rcs tk)) (hg4 : w3.grownBy w4 ov.ownBlock) :
    OpSt w w9 w4 hg a n size lv' (live ++ [x.sg]) x.last v4 (out ++ tk) := by
  have oo3 : w3.ownsRow w9.heap.size 41 2 ov out.length (rcs out) := own_sameK s.oown hk (by decide)
  have hnk : ∀ z t, ov.ownBlock = some z → kindAt w3 z = some t → t = some 41 := fun z t hz ht => by
    have := kind_own oo3 hz
    rw [this] at ht
    injection ht with ht
    exact ht.symm
  have q3 : Below w.heap.size w w3 := s.below.trans hb
  refine ⟨hl3.kept oo3 hg4 (by decide), (s.gp.sameK hk (by decide)).kept oo3 hg4 (by decide), ?_, fun b t ht hb9 => ?_, ?_, ?_, s.base, ?_⟩
  · rw [List.length_append, List.length_singleton]
    exact own_sameK (ks := [some 58]) hlo (SameK.grown hg4 fun z t hz ht => by rw [hnk z t hz ht]; decide) (by decide)
  · have h1 := s.same b t ht hb9
    have h2 := hk b t ht (kind_same h1 hb9)
    have hlt := kind_lt hb9
    have hz : w9.heap.size ≤ w3.heap.size := Nat.le_trans s.size hb.size
    have h3 := hg4.block b (by omega) (fun e => by
      have := (oo3.lt b e.symm).1
      omega)
    exact h3.trans (h2.trans h1)
  · rw [List.length_append, rcs_append]
    exact hown4
  · exact Nat.le_trans (Nat.le_trans s.size hb.size) hg4.size
  · exact below_grown_own q3 (own_lower oo3 s.base) hg4 q3.size

/-- Open's state behind the chain, while segments are given back. -/
structure OpE (h h' : Zn) (w wr : World) (a : Int) (n size : Nat) (lv : Value) (live : List Sg) (last synced : Nat) (ov : Value) (out : List Rcd) : Prop where
  lb : Lb wr w.heap.size h.g a n size lv (.slice none 0 0) last synced
  gp : Blk wr (w.heap.size + 1) 30 #[.pointer (some ⟨w.heap.size, 0, none⟩)]
  lown : wr.ownsRow w.heap.size 58 3 lv live.length (sgcs live)
  oown : wr.ownsRow w.heap.size 41 2 ov out.length (rcs out)
  st : Stp h w h' wr
theorem OpSt.fin {h : Zn} (s : OpSt w w9 wr h.g a n size lv live last ov out) : OpE h h w wr a n size lv live last 0 ov out :=
  ⟨s.lb, s.gp, s.lown, own_lower s.oown s.base, Stp.below s.below⟩
theorem OpE.step {h h1 h2 : Zn} {w1 : World} {D1 : Dsk} {synced : Nat} (s : OpE h h1 w w1 a n size lv live last synced ov out) (d : Dk w1 h1 D1) (st : Stp h1 w1 h2 w2) : OpE h h2 w w2 a n size lv live last synced ov out :=
  have hs : SameK [some 58, some 41] w1 w2 := st.same d (by decide) (by decide) (by decide)
  ⟨st.lb d s.lb, st.blk d s.gp (by decide) (by decide), own_sameK s.lown hs (by decide), own_sameK s.oown hs (by decide), s.st.trans st⟩
theorem OpE.later {h h1 : Zn} {w1 : World} {synced : Nat} (s : OpE h h1 w w1 a n size lv live last synced ov out) (hb : Below w1.heap.size w1 w2) : OpE h h1 w w2 a n size lv live last synced ov out :=
  ⟨s.lb.later hb, s.gp.later hb, own_later s.lown hb, own_later s.oown hb, s.st.trans (Stp.below hb)⟩
/-- The last number is put. -/
theorem OpE.put {h h1 : Zn} {w1 : World} {D1 : Dsk} {synced m : Nat} (s : OpE h h1 w w1 a n size lv live last synced ov out) (d : Dk w1 h1 D1) :
    OpE h h1 w (w1.setCell ⟨w.heap.size, 6, none⟩ (.int .u64 (m : Int))) a n size lv live m synced ov out ∧ Dk (w1.setCell ⟨w.heap.size, 6, none⟩ (.int .u64 (m : Int))) h1 D1 :=
  have hs : SameK [some 58, some 41, some 30] w1 (w1.setCell ⟨w.heap.size, 6, none⟩ (.int .u64 (m : Int))) := SameK.setCell (p := ⟨w.heap.size, 6, none⟩) s.lb (by decide) _
  ⟨⟨s.lb.put 6 _, s.gp.sameK hs (by decide), own_sameK s.lown hs (by decide), own_sameK s.oown hs (by decide), ⟨s.st.g, s.st.turn.setCell (p := ⟨w.heap.size, 6, none⟩) (.inr (Nat.le_refl _)) _, s.st.has⟩⟩,
   d.same (SameK.setCell (p := ⟨w.heap.size, 6, none⟩) s.lb (by decide) _)⟩
/-- The call that syncs: the log's own block is new. -/
theorem OpE.sync {h h1 h2 : Zn} {w1 : World} {D1 : Dsk} {synced : Nat} (s : OpE h h1 w w1 a n size lv live last synced ov out) (d : Dk w1 h1 D1) (hl : Lb w2 w.heap.size h.g a n size lv (.slice none 0 0) last last) (m : Mtp h1 w.heap.size w1 h2 w2) :
    OpE h h2 w w2 a n size lv live last last ov out := by
  have hs : SameK [some 58, some 41, some 30] w1 w2 := m.sameL d s.lb (by decide) (by decide) (by decide) (by decide)
  refine ⟨hl, s.gp.sameK hs (by decide), own_sameK s.lown hs (by decide), own_sameK s.oown hs (by decide), m.g.trans s.st.g, s.st.turn.trans m.turn fun b hb => ?_, fun b hb => ?_⟩
  · rcases hb with hb | rfl
    · exact s.st.has b hb
    · exact .inr (Nat.le_refl _)
  · rcases m.has b hb with h3 | h3
    · exact s.st.has b h3
    · exact .inr (Nat.le_trans s.st.turn.size h3)
end
end Go.Proofs.YtojlldalhhibmaaDoor
