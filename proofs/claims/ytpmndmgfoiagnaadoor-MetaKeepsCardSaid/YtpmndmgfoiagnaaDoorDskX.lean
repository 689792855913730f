/- The disk: Copy. -/
import Derived.Test.YtpmndmgfoiagnaaDoorDskH
import Derived.Test.YtpmndmgfoiagnaaDoorGrow
import Derived.BigQuiet
namespace Go.Proofs.YtpmndmgfoiagnaaDoor
open Go Go.RowKit
set_option linter.unusedVariables false

/-- append onto an empty slice of one's own: memory only grows. -/
theorem run_append_new {P : Program} (w : World) {base : Nat} {t e : TypeId} {z : Value} {size bytes : Nat} (E : Elem P t e z size bytes) (ty : TypeId)
    {g : Nat} (hown : w.ownsRow base e size (.slice (some ⟨g, 0, none⟩) 0 0) 0 [])
    {S : Nat → Prop} {u : Value} {m : Nat} {news : List Value} (hr : Sl S w size u m news) (hlen : m ≤ maxLen) (hbytes : m * bytes ≤ 140737488355328) (hbase : base ≤ w.heap.size) :
    ∃ v' w', (Builtin.append_ #[t, t] ty #[.slice (some ⟨g, 0, none⟩) 0 0, u]).run P w = .ok v' w' ∧ w'.ownsRow base e size v' m news ∧ Below w.heap.size w w' := by
  obtain ⟨hl, A, c, rfl, hmc, hcm, hA0, hA⟩ := hr
  have hE := E
  obtain ⟨i, hi, hz, hsz, hby⟩ := E.info
  rcases Nat.eq_zero_or_pos m with hm | hm
  · subst hm
    obtain rfl : news = [] := List.eq_nil_of_length_eq_zero (by simpa using hl)
    refine ⟨_, w, ?_, hown, Below.refl _ _⟩
    rcases A with _ | ad
    · exact run_append_nilsrc w hE ty hown c
    · simp [Builtin.append_, run_underlying E.under, sizeOf, typeInfo, hi, Builtin.lenOf, Builtin.firstCells, loadCells, loadCellsFrom, storeCells]
  · obtain ⟨b, o, rfl, _, hc⟩ := hA hm
    have hsmall : m ≤ 9223372036854775807 := by simp only [maxLen] at hlen; omega
    subst hsz hby
    have hr := run_append_grow (P := P) w t ty e i z E.under hi hz ⟨g, 0, none⟩ 0 0 [] (by simp) (by intro j v hj; simp at hj) ⟨b, o, none⟩ m c news hl (fun j v hj => by rw [addr_add_none]; exact hc j v hj) (by omega) (by omega) (growslice_fits (by omega) (by simpa using hbytes))
    have hge := grownCap_ge w m 0 e
    have hcm : grownCap w m 0 e ≤ maxLen := grownCap_le_maxLen w m 0 e hlen
    simp only [Nat.zero_add] at hr
    refine ⟨_, _, hr, ⟨hl, .inr ⟨w.heap.size, _, _, rfl, hbase, heap_alloc_new w.drew _, hge, hcm, ?_, ?_⟩⟩, (Below.refl w.heap.size w).drew.alloc (by simp) _⟩
    · simp only [Array.size_append, List.size_toArray, size_zeroCells, E.cells, hl, List.length_nil, Nat.zero_add, ← Nat.add_mul]
      congr 1
      omega
    · simp only [Array.toList_append, List.nil_append]
      rw [← hl]
      exact List.take_left
theorem grows_append {P : Program} {o : Oper} {a : Act} {w w' : World} {V : VP} {t : TypeId} {v u v' : Value} (s x : Operand) (ho : o.op = .call { callee := .builtin .append, args := #[s, x], argTypes := #[t, t] }) (hs : a.eval s = v) (hx : a.eval x = u)
    (hrun : (Builtin.append_ #[t, t] o.type #[v, u]).run P w = .ok v' w') (hb : Below w.heap.size w w') (hV : V v' w') : grows P o a w V := by
  unfold grows execOp
  simp only [ho, resolve, invoke, builtin, Sem.run_bind, Sem.run_pure, Result.andThen_ok, List.map_toArray, List.map_cons, List.map_nil, hs, hx, hrun]
  exact ⟨hb, hV⟩

/-- Sectors of one's own. -/
def VSec (B : Nat) (f : SF) (n : Nat) : VP := fun v w => ∃ b, v = .map (some b) ∧ B ≤ b ∧ Secs w b f n
theorem Stays.sec (B : Nat) (f : SF) (n : Nat) : Stays (VSec B f n) := fun _ _ _ hb ⟨b, h1, h2, h3⟩ => ⟨b, h1, h2, h3.later hb⟩
def VOwn (e : TypeId) (B : Nat) (vs : List Value) : VP := fun v w => Ow e w B v vs
theorem Stays.own (e : TypeId) (B : Nat) (vs : List Value) : Stays (VOwn e B vs) := fun _ _ _ hb h => h.later hb
def VEmp (e : TypeId) (B : Nat) : VP := fun v w => ∃ g, v = .slice (some ⟨g, 0, none⟩) 0 0 ∧ Ow e w B v []
theorem Stays.emp (e : TypeId) (B : Nat) : Stays (VEmp e B) := fun _ _ _ hb ⟨g, h1, h2⟩ => ⟨g, h1, h2.later hb⟩
/-- A disk of one's own, as a struct value; in a block. -/
def VCp (B : Nat) (D : Dsk) (vs : List Value) : VP := fun v w => ∃ bv bg sl, v = .agg #[.int .i64 D.size, .int .i64 D.limit, .map (some bv), .map (some bg), sl] ∧ B ≤ bv ∧ B ≤ bg ∧ Secs w bv D.view D.nv ∧ Secs w bg D.ground D.ng ∧ Ow 84 w B sl vs
theorem Stays.cp (B : Nat) (D : Dsk) (vs : List Value) : Stays (VCp B D vs) := fun _ _ _ hb ⟨bv, bg, sl, h1, h2, h3, h4, h5, h6⟩ => ⟨bv, bg, sl, h1, h2, h3, h4.later hb, h5.later hb, h6.later hb⟩
def VCb (B : Nat) (D : Dsk) (vs : List Value) : VP := fun v w => ∃ g bv bg sl, v = .pointer (some ⟨g, 0, none⟩) ∧ B ≤ g ∧ Blk w g 65 #[.int .i64 D.size, .int .i64 D.limit, .map (some bv), .map (some bg), sl] ∧ B ≤ bv ∧ B ≤ bg ∧ Secs w bv D.view D.nv ∧ Secs w bg D.ground D.ng ∧ Ow 84 w B sl vs
theorem Stays.cb (B : Nat) (D : Dsk) (vs : List Value) : Stays (VCb B D vs) := fun _ _ _ hb ⟨g, bv, bg, sl, h1, h2, h3, h4, h5, h6, h7, h8⟩ => ⟨g, bv, bg, sl, h1, h2, h3.later hb, h4, h5, h6.later hb, h7.later hb, h8.later hb⟩

theorem MpV.alike {P : Program} {k : TypeId} {w : World} {b n n' : Nat} {f g : Int → Option Value} (h : MpV P k w b f n) (h' : MpV P k w b g n') {a : Int} (ha : InI a) : (f a).isSome = (g a).isSome := by
  obtain ⟨D, ⟨es, cl, hb, _, _, hD⟩, _, h3⟩ := h
  obtain ⟨D', ⟨es', cl', hb', _, _, hD'⟩, _, h3'⟩ := h'
  rw [hb] at hb'
  injection hb' with hb'
  injection hb' with hb'
  subst hb'
  have e : D = D' := hD.trans hD'.symm
  subst e
  rw [← (h3 a ha).1, ← (h3' a ha).1]
theorem Secs.alike {w : World} {b n n' : Nat} {f f' : SF} (h : Secs w b f n) (h' : Secs w b f' n') {x : Int} (hx : InI x) : (f x).isSome = (f' x).isSome := by
  obtain ⟨m, hm, hr⟩ := h
  obtain ⟨m', hm', hr'⟩ := h'
  rw [← (hr x hx).some_iff, ← (hr' x hx).some_iff]
  exact hm.alike hm' hx

set_option maxHeartbeats 4000000 in
set_option maxRecDepth 100000 in
theorem dcopy_any (h : Zn) (D : Dsk) (w : World) (hd : Dk w h D) (hok : D.Ok) (hne : ∃ x, InI x ∧ (D.view x).isSome ≠ (D.ground x).isSome) (hlen : D.pend.length ≤ 1000000) :
    Calls Tryd.prog 21 #[.pointer (some ⟨h.g, 0, none⟩)] w fun e w' => ∃ h', e = .returned (.pointer (some ⟨h'.g, 0, none⟩)) ∧ Dk w' h' D ∧ (∀ b, h'.has b → w.heap.size ≤ b) ∧ Below w.heap.size w w' := by
  obtain ⟨vs, hown, hpl⟩ := hd.pend
  have hvl := hpl.1
  obtain ⟨A0, c0, hsl, _⟩ := Ow.shape hown
  have HD := Lib.hid hd
  have HOK := Lib.hid hok
  have HPL := Lib.hid hpl
  have HNE := Lib.hid hne
  have HO := Lib.hid hown
  have hvb : vs.length ≤ 1000000 := by omega
  have d0 : w.cell? ⟨h.g, 0, none⟩ = some (.int .i64 D.size) := hd.blk.cell 0
  have d1 : w.cell? ⟨h.g, 1, none⟩ = some (.int .i64 D.limit) := hd.blk.cell 1
  have d2 : w.cell? ⟨h.g, 2, none⟩ = some (.map (some h.bv)) := hd.blk.cell 2
  have d3 : w.cell? ⟨h.g, 3, none⟩ = some (.map (some h.bg)) := hd.blk.cell 3
  have d4 : w.cell? ⟨h.g, 4, none⟩ = some (.slice A0 vs.length c0) := by have := hd.blk.cell 4; rw [hsl] at this; exact this
  rw [hsl] at HO
  clear hd hok hpl hne hown hvl hsl
  go_enter Tryd.func21, Tryd.ntmps21
  go_wp2_with fail
  refine wp_region_grow_lit (by kernel_rfl) (by kernel_rfl) ?_
  apply Exists.intro
  apply And.intro
  · repeat (first
      | (apply wpGrow_skip rfl
         intro K hK
         go_simp
         refine hK _ ?_
         clear hK K)
      | (apply wpGrow_is rfl
         · intro wg hwg _
           have d0' := cell_later hwg d0
           have d1' := cell_later hwg d1
           have d2' := cell_later hwg d2
           have d3' := cell_later hwg d3
           unfold grows
           go_simp
           first
             | exact grows_value _ _
         intro K hK
         go_simp
         refine hK _ ?_
         clear hK K))
    apply wpGrow_rel (V := VSec w.heap.size D.view D.nv) rfl
    · intro wg hwg hf
      unfold grows
      go_simp
      refine ⟨Below.refl _ _, ?_⟩
      go_at_call 30
      exact (copied_any h.bv D.nv D.view wg (HD.out.view.later hwg) HOK.out.view).mono fun e w' ⟨b, he, hb, hs, hbl⟩ => ⟨_, he, hbl, b, rfl, Nat.le_trans hwg.size hb, hs⟩
    intro xv hxv K hK
    obtain ⟨wx, _, hbx⟩ := hxv
    have hbo := hbx
    obtain ⟨b13, rfl, _⟩ := hbo
    go_simp
    refine hK _ ?_
    clear hK K hbx
    repeat (first
      | (apply wpGrow_skip rfl
         intro K hK
         go_simp
         refine hK _ ?_
         clear hK K)
      | (apply wpGrow_is rfl
         · intro wg hwg _
           have d0' := cell_later hwg d0
           have d1' := cell_later hwg d1
           have d2' := cell_later hwg d2
           have d3' := cell_later hwg d3
           unfold grows
           go_simp
           first
             | exact grows_value _ _
         intro K hK
         go_simp
         refine hK _ ?_
         clear hK K))
    apply wpGrow_rel (V := VSec w.heap.size D.ground D.ng) rfl
    · intro wg hwg hf
      unfold grows
      go_simp
      refine ⟨Below.refl _ _, ?_⟩
      go_at_call 30
      exact (copied_any h.bg D.ng D.ground wg (HD.out.ground.later hwg) HOK.out.ground).mono fun e w' ⟨b, he, hb, hs, hbl⟩ => ⟨_, he, hbl, b, rfl, Nat.le_trans hwg.size hb, hs⟩
    intro xv hxv K hK
    obtain ⟨wx, _, hbx⟩ := hxv
    have hbo := hbx
    obtain ⟨b18, rfl, _⟩ := hbo
    go_simp
    refine hK _ ?_
    clear hK K hbx
    apply wpGrow_rel (V := VEmp 84 w.heap.size) rfl
    · intro wg hwg hf
      unfold grows
      go_simp
      exact ⟨(Below.refl _ _).alloc (Nat.le_refl _) _, _, rfl, Ow.made _ wg _ hwg.size rfl⟩
    intro xv hxv K hK
    obtain ⟨wx, _, hbx⟩ := hxv
    have hbo := hbx
    obtain ⟨g19, rfl, _⟩ := hbo
    go_simp
    refine hK _ ?_
    clear hK K hbx
    repeat (first
      | (apply wpGrow_skip rfl
         intro K hK
         go_simp
         refine hK _ ?_
         clear hK K)
      | (apply wpGrow_is rfl
         · intro wg hwg _
           have d4' := cell_later hwg d4
           unfold grows
           go_simp
           first
             | exact grows_value _ _
         intro K hK
         go_simp
         refine hK _ ?_
         clear hK K))
    apply wpGrow_rel (V := VOwn 84 w.heap.size vs) rfl
    · intro wg hwg hf
      have hb6 : VEmp 84 w.heap.size (.slice (some ⟨g19, 0, none⟩) 0 0) wg := hf ⟨18, .data⟩ (by simp) rfl _ _ (by kernel_rfl)
      obtain ⟨g', hg', ho⟩ := hb6
      obtain ⟨v', w', hrun, hown, hbl⟩ := run_append_new wg elemPn 63 ho ((HO.out.later hwg).sl) (by simp only [maxLen]; omega) (by omega) hwg.size
      exact grows_append (.tmp 21) (.tmp 25) rfl rfl rfl hrun hbl hown
    intro xv hxv K hK
    have hbo := hxv
    obtain ⟨wx, _, hbx⟩ := hbo
    obtain ⟨A26, c26, rfl, _⟩ := Ow.shape hbx
    go_simp
    refine hK _ ?_
    clear hK K hbx hxv
    apply wpGrow_rel (V := VCp w.heap.size D vs) rfl
    · intro wg hwg hf
      obtain ⟨b', hb', hb13⟩ : VSec w.heap.size D.view D.nv (.map (some b13)) wg := hf ⟨12, .data⟩ (by simp) rfl _ _ (by kernel_rfl)
      cases hb'
      obtain ⟨b', hb', hb18⟩ : VSec w.heap.size D.ground D.ng (.map (some b18)) wg := hf ⟨17, .data⟩ (by simp) rfl _ _ (by kernel_rfl)
      cases hb'
      have hb24 : VOwn 84 w.heap.size vs (.slice A26 vs.length c26) wg := hf ⟨23, .data⟩ (by simp) rfl _ _ (by kernel_rfl)
      unfold grows
      go_simp
      exact ⟨Below.refl _ _, b13, b18, _, rfl, hb13.1, hb18.1, hb13.2, hb18.2, hb24⟩
    intro xv hxv K hK
    obtain ⟨wx, _, hbx⟩ := hxv
    have hbo := hbx
    obtain ⟨bv, bg, sl, rfl, _⟩ := hbo
    go_simp
    refine hK _ ?_
    clear hK K hbx
    apply wpGrow_rel (V := VCb w.heap.size D vs) rfl
    · intro wg hwg hf
      obtain ⟨bv', bg', sl', hc1, hc2, hc3, hc4, hc5, hc6⟩ : VCp w.heap.size D vs (.agg #[.int .i64 D.size, .int .i64 D.limit, .map (some bv), .map (some bg), sl]) wg := hf ⟨24, .data⟩ (by simp) rfl _ _ (by kernel_rfl)
      cases hc1
      have qa := (Below.refl wg.heap.size wg).alloc (Nat.le_refl _) (.cells #[.int .i64 D.size, .int .i64 D.limit, .map (some bv), .map (some bg), sl] 65)
      unfold grows
      go_simp
      exact ⟨(Below.refl _ _).alloc (Nat.le_refl _) _, _, bv, bg, sl, rfl, hwg.size, Blk.new _ _ _, hc2, hc3, hc4.later qa, hc5.later qa, hc6.later qa⟩
    intro xv hxv K hK
    obtain ⟨wx, _, hbx⟩ := hxv
    have hbo := hbx
    obtain ⟨gn, _, _, _, rfl, _⟩ := hbo
    go_simp
    refine hK _ ?_
    clear hK K hbx
    apply wpGrow_rel (V := VCb w.heap.size D vs) rfl
    · intro wg hwg hf
      have hcb : VCb w.heap.size D vs (.pointer (some ⟨gn, 0, none⟩)) wg := hf ⟨25, .data⟩ (by simp) rfl _ _ (by kernel_rfl)
      unfold grows
      go_simp
      exact ⟨Below.refl _ _, hcb⟩
    intro xv hxv K hK
    obtain ⟨wx, _, hbx⟩ := hxv
    have hbo := hbx
    obtain ⟨gm, _, _, _, rfl, _⟩ := hbo
    go_simp
    refine hK _ ?_
    clear hK K hbx
    refine wpGrow_end (fun wg hwg hf => ?_)
    have hz : VCb w.heap.size D vs (.pointer (some ⟨gm, 0, none⟩)) wg := hf 26 _ _ (by kernel_rfl)
    clear hf
    go_wp2_with fail
    go_ret
    obtain ⟨g', bv', bg', sl', e1, h2, h3, h4, h5, h6, h7, h8⟩ := hz
    cases e1
    refine ⟨⟨gm, bv', bg', sl'⟩, rfl, ⟨h3, h6, h7, ?_, vs, h8.lower (Nat.zero_le _), HPL.out.keep fun _ _ h => h.later hwg⟩, fun b hb => ?_, hwg⟩
    · intro e
      obtain ⟨x, hx, hxn⟩ := HNE.out
      simp only at e
      subst e
      exact hxn (h6.alike h7 hx)
    · rcases hb with rfl | rfl | rfl | hb
      · exact h2
      · exact h4
      · exact h5
      · rcases h8.2 with ⟨hs, _⟩ | ⟨g1, _, _, hs, hB, _⟩
        · simp only at hb; rw [hs] at hb; cases hb
        · simp only at hb; rw [hs] at hb; injection hb with hb; subst hb; exact hB
  · apply And.intro
    · repeat (first | exact trivial | (refine ⟨Stays.is _, ?_⟩) | (refine ⟨Stays.sec _ _ _, ?_⟩) | (refine ⟨Stays.own _ _ _, ?_⟩) | (refine ⟨Stays.emp _ _, ?_⟩) | (refine ⟨Stays.cp _ _ _, ?_⟩) | (refine ⟨Stays.cb _ _ _, ?_⟩))
    · rfl
end Go.Proofs.YtpmndmgfoiagnaaDoor
