/- What the proof of PagerLeast needs, part 28. -/
import Derived.Test.YtildohndbeagaaaGreatDoorPagerLeastJ2
import Derived.Test.YtildohndbeagaaaGreatDoorPagerLeastJ4
import Derived.Test.YtildohndbeagaaaGreatDoorPagerLeastJ5
import Derived.Test.YtildohndbeagaaaGreatDoorPagerLeastJ11
import Derived.BigQuiet

namespace Go.Proofs.YtildohndbeagaaaGreatDoor
open Go Go.RowKit
set_option linter.unusedVariables false

/-- append onto an empty slice of one's own: memory only grows. -/
theorem run_append_new {P : Program} (w : World) {base : Nat} {t e : TypeId} {z : Value} {size bytes : Nat} (E : Elem P t e z size bytes) (ty : TypeId)
    {g : Nat} (hown : w.ownsRow base e size (.slice (some ⟨g, 0, none⟩) 0 0) 0 [])
    {S : Nat → Prop} {u : Value} {m : Nat} {news : List Value} (hr : Sl S w size u m news) (hlen : m ≤ maxLen) (hbytes : m * bytes ≤ 140737488355328) (hbase : base ≤ w.heap.size) :
    ∃ v' w', (Builtin.append_ #[t, t] ty #[.slice (some ⟨g, 0, none⟩) 0 0, u]).run P w = .ok v' w' ∧ w'.ownsRow base e size v' m news ∧ Below w.heap.size w w' := by
  obtain ⟨hl, A, c, rfl, hmc, hcm, hA0, hA⟩ := hr
  have hE := E
  obtain ⟨i, hi, hz, hsz, hby⟩ := E.info
  rcases Nat.eq_zero_or_pos m with hm | hm
  · subst hm
    obtain rfl : news = [] := List.eq_nil_of_length_eq_zero (by simpa using hl)
    refine ⟨_, w, ?_, hown, Below.refl _ _⟩
    rcases A with _ | ad
    · exact run_append_nilsrc w hE ty hown c
    · simp [Builtin.append_, run_underlying E.under, sizeOf, typeInfo, hi, Builtin.lenOf, Builtin.firstCells, loadCells, loadCellsFrom, storeCells]
  · obtain ⟨b, o, rfl, _, hc⟩ := hA hm
    have hsmall : m ≤ 9223372036854775807 := by simp only [maxLen] at hlen; omega
    subst hsz hby
    have hr := run_append_grow (P := P) w t ty e i z E.under hi hz ⟨g, 0, none⟩ 0 0 [] (by simp) (by intro j v hj; simp at hj) ⟨b, o, none⟩ m c news hl (fun j v hj => by rw [addr_add_none]; exact hc j v hj) (by omega) (by omega) (growslice_fits (by omega) (by simpa using hbytes))
    have hge := grownCap_ge w m 0 e
    have hcm : grownCap w m 0 e ≤ maxLen := grownCap_le_maxLen w m 0 e hlen
    simp only [Nat.zero_add] at hr
    refine ⟨_, _, hr, ⟨hl, .inr ⟨w.heap.size, _, _, rfl, hbase, heap_alloc_new w.drew _, hge, hcm, ?_, ?_⟩⟩, (Below.refl w.heap.size w).drew.alloc (by simp) _⟩
    · simp only [Array.size_append, List.size_toArray, size_zeroCells, E.cells, hl, List.length_nil, Nat.zero_add, ← Nat.add_mul]
      congr 1
      omega
    · simp only [Array.toList_append, List.nil_append]
      rw [← hl]
      exact List.take_left
theorem grows_append {P : Program} {o : Oper} {a : Act} {w w' : World} {V : VP} {t : TypeId} {v u v' : Value} (s x : Operand) (ho : o.op = .call { callee := .builtin .append, args := #[s, x], argTypes := #[t, t] }) (hs : a.eval s = v) (hx : a.eval x = u)
    (hrun : (Builtin.append_ #[t, t] o.type #[v, u]).run P w = .ok v' w') (hb : Below w.heap.size w w') (hV : V v' w') : grows P o a w V := by
  unfold grows execOp
  simp only [ho, resolve, invoke, builtin, Sem.run_bind, Sem.run_pure, Result.andThen_ok, List.map_toArray, List.map_cons, List.map_nil, hs, hx, hrun]
  exact ⟨hb, hV⟩

/-- Sectors of one's own. -/
def VSec (B : Nat) (f : SF) (n : Nat) : VP := fun v w => ∃ b, v = .map (some b) ∧ B ≤ b ∧ Secs w b f n
theorem Stays.sec (B : Nat) (f : SF) (n : Nat) : Stays (VSec B f n) := fun _ _ _ hb ⟨b, h1, h2, h3⟩ => ⟨b, h1, h2, h3.later hb⟩
def VOwn (e : TypeId) (B : Nat) (vs : List Value) : VP := fun v w => Ow e w B v vs
theorem Stays.own (e : TypeId) (B : Nat) (vs : List Value) : Stays (VOwn e B vs) := fun _ _ _ hb h => h.later hb
def VEmp (e : TypeId) (B : Nat) : VP := fun v w => ∃ g, v = .slice (some ⟨g, 0, none⟩) 0 0 ∧ Ow e w B v []
theorem Stays.emp (e : TypeId) (B : Nat) : Stays (VEmp e B) := fun _ _ _ hb ⟨g, h1, h2⟩ => ⟨g, h1, h2.later hb⟩
/-- A disk of one's own, as a struct value; in a block. -/
def VCp (B : Nat) (D : Dsk) (vs : List Value) : VP := fun v w => ∃ bv bg sl, v = .agg #[.int .i64 D.size, .int .i64 D.limit, .map (some bv), .map (some bg), sl] ∧ B ≤ bv ∧ B ≤ bg ∧ Secs w bv D.view D.nv ∧ Secs w bg D.ground D.ng ∧ Ow 113 w B sl vs
theorem Stays.cp (B : Nat) (D : Dsk) (vs : List Value) : Stays (VCp B D vs) := fun _ _ _ hb ⟨bv, bg, sl, h1, h2, h3, h4, h5, h6⟩ => ⟨bv, bg, sl, h1, h2, h3, h4.later hb, h5.later hb, h6.later hb⟩
def VCb (B : Nat) (D : Dsk) (vs : List Value) : VP := fun v w => ∃ g bv bg sl, v = .pointer (some ⟨g, 0, none⟩) ∧ B ≤ g ∧ Blk w g 75 #[.int .i64 D.size, .int .i64 D.limit, .map (some bv), .map (some bg), sl] ∧ B ≤ bv ∧ B ≤ bg ∧ Secs w bv D.view D.nv ∧ Secs w bg D.ground D.ng ∧ Ow 113 w B sl vs
theorem Stays.cb (B : Nat) (D : Dsk) (vs : List Value) : Stays (VCb B D vs) := fun _ _ _ hb ⟨g, bv, bg, sl, h1, h2, h3, h4, h5, h6, h7, h8⟩ => ⟨g, bv, bg, sl, h1, h2, h3.later hb, h4, h5, h6.later hb, h7.later hb, h8.later hb⟩

theorem MpV.alike {P : Program} {k : TypeId} {w : World} {b n n' : Nat} {f g : Int → Option Value} (h : MpV P k w b f n) (h' : MpV P k w b g n') {a : Int} (ha : InI a) : (f a).isSome = (g a).isSome := by
  obtain ⟨D, ⟨es, cl, hb, _, _, hD⟩, _, h3⟩ := h
  obtain ⟨D', ⟨es', cl', hb', _, _, hD'⟩, _, h3'⟩ := h'
  rw [hb] at hb'
  injection hb' with hb'
  injection hb' with hb'
  subst hb'
  have e : D = D' := hD.trans hD'.symm
  subst e
  rw [← (h3 a ha).1, ← (h3' a ha).1]
theorem Secs.alike {w : World} {b n n' : Nat} {f f' : SF} (h : Secs w b f n) (h' : Secs w b f' n') {x : Int} (hx : InI x) : (f x).isSome = (f' x).isSome := by
  obtain ⟨m, hm, hr⟩ := h
  obtain ⟨m', hm', hr'⟩ := h'
  rw [← (hr x hx).some_iff, ← (hr' x hx).some_iff]
  exact hm.alike hm' hx

end Go.Proofs.YtildohndbeagaaaGreatDoor

namespace Go.Proofs.YtildohndbeagaaaGreatDoor
open Go Go.RowKit
set_option linter.unusedVariables false

/-- A disk that the call has made, since w. -/
structure Dp (w W : World) (h : Zn) (D : Dsk) : Prop where
  dk : Dk W h D
  new : ∀ b, h.has b → w.heap.size ≤ b
  below : Below w.heap.size w W
section
variable {w W W' : World} {h h' : Zn} {D D' : Dsk}
theorem Dp.stp (d : Dp w W h D) (s : Stp h W h' W') (k : Dk W' h' D') : Dp w W' h' D' :=
  ⟨k, fun b hb => (s.has b hb).elim (d.new b) (fun h => Nat.le_trans d.below.size h), Turn.below d.below s.turn d.below.size d.new⟩
theorem Dp.mtp (d : Dp w W h D) {g : Nat} (hg : w.heap.size ≤ g) (s : Mtp h g W h' W') (k : Dk W' h' D') : Dp w W' h' D' :=
  ⟨k, fun b hb => (s.has b hb).elim (d.new b) (fun h => Nat.le_trans d.below.size h), Turn.below d.below s.turn d.below.size fun b hb => hb.elim (d.new b) (fun e => by rw [e]; exact hg)⟩
theorem Dp.later (d : Dp w W h D) (hb : Below W.heap.size W W') : Dp w W' h D := ⟨d.dk.later hb, d.new, d.below.trans (hb.mono d.below.size)⟩
theorem Dp.alloc (d : Dp w W h D) (o : Obj) : Dp w (W.alloc o) h D := d.later ((Below.refl _ _).alloc (Nat.le_refl _) o)
/-- Another disk stays. -/
theorem Dk.apart {h2 : Zn} {D2 : Dsk} (d2 : Dk W h2 D2) (d : Dk W h D) (s : Stp h W h' W') (hne : ∀ b, h.has b → ¬ h2.has b) : Dk W' h2 D2 := by
  have key : ∀ b, h2.has b → W'.heap[b]? = W.heap[b]? := fun b hb => s.turn.block b (d2.lt hb) (fun hh => hne b hh hb)
  have hub : ∀ {B : Nat} {v : Value} {l : List UInt8}, Ub W B v l → Ub W' B v l := fun h => s.ub d h
  have hblk : ∀ {g : Nat} {t : TypeId} {cs : Array Value}, Blk W g t cs → t ≠ 75 → t ≠ 113 → Blk W' g t cs := fun h h1 h2 => s.blk d h h1 h2
  have hsec : ∀ {b n : Nat} {f : SF}, Secs W b f n → h2.has b → Secs W' b f n := by
    intro b n f hs hb
    obtain ⟨m, hm, hr⟩ := hs
    exact ⟨m, hm.at (key b hb), fun x hx => (hr x hx).keep fun _ _ h => hub h⟩
  obtain ⟨vs, ho, hp⟩ := d2.pend
  refine ⟨?_, hsec d2.view (.inr (.inl rfl)), hsec d2.ground (.inr (.inr (.inl rfl))), d2.ne, vs, ?_, hp.keep fun v p hv => ?_⟩
  · exact (key _ (.inl rfl)).trans d2.blk
  · refine ⟨ho.1, ?_⟩
    rcases ho.2 with h3 | ⟨g, cap, cur, hv, hB, hh, r⟩
    · exact .inl h3
    · refine .inr ⟨g, cap, cur, hv, hB, ?_, r⟩
      exact (key g (.inr (.inr (.inr (by rw [hv]; rfl))))).trans hh
  · cases p with
    | wr a b =>
      obtain ⟨ga, A, c, h1, h3, h4, h5⟩ := hv
      exact ⟨ga, A, c, h1, hblk h3 (by decide) (by decide), hblk h4 (by decide) (by decide), hub h5⟩
    | fr a =>
      obtain ⟨ga, h1, h3⟩ := hv
      exact ⟨ga, h1, hblk h3 (by decide) (by decide)⟩
end

/-- What is of other kinds has stayed. -/
def Else (W W' : World) : Prop := ∀ {g : Nat} {t : TypeId} {cs : Array Value}, Blk W g t cs → t ≠ 75 → t ≠ 113 → t ≠ 83 → Blk W' g t cs
theorem Mtp.else {W W' : World} {h h' : Zn} {D : Dsk} {g : Nat} {a : Int} {num : Nat} {last : Int} (s : Mtp h g W h' W') (d : Dk W h D) (m : Mk W g h a num last) : Else W W' := by
  intro z t cs hb h1 h2 h3
  refine hb.turn s.turn fun e => ?_
  have hk := kind_blk hb
  rcases e with e | rfl
  · rcases d.kinds e with h4 | h4 | h4
    · rw [hk] at h4; injection h4 with h4; injection h4 with h4; exact h1 h4
    · rw [hk] at h4; injection h4 with h4; cases h4
    · rw [hk] at h4; injection h4 with h4; injection h4 with h4; exact h2 h4
  · rw [kind_blk m.blk] at hk
    injection hk with hk
    injection hk with hk
    exact h3 hk.symm
theorem Stp.else {W W' : World} {h h' : Zn} {D : Dsk} (s : Stp h W h' W') (d : Dk W h D) : Else W W' := fun hb h1 h2 _ => s.blk d hb h1 h2

/-- A page that the law has opened on it, and nothing is pending. -/
structure Mp (w W : World) (h : Zn) (D : Dsk) (g : Nat) (a : Int) (num : Nat) (last : Int) (body : List UInt8) : Prop where
  dp : Dp w W h D
  mr : Mr D a num last body
  gn : w.heap.size ≤ g
  page : Mk W g h a num last
section
variable {w W W' : World} {h h' : Zn} {D D' : Dsk} {g : Nat} {a : Int} {num : Nat} {last : Int} {body t : List UInt8}
theorem Mp.later (m : Mp w W h D g a num last body) (hb : Below W.heap.size W W') : Mp w W' h D g a num last body := ⟨m.dp.later hb, m.mr, m.gn, m.page.later hb⟩
theorem Mp.alloc (m : Mp w W h D g a num last body) (o : Obj) : Mp w (W.alloc o) h D g a num last body := m.later ((Below.refl _ _).alloc (Nat.le_refl _) o)
theorem Mr.lastB (m : Mr D a num last body) : 0 ≤ last ∧ last ≤ 1 := by have := m.mi.l01; omega
theorem Mr.at (m : Mr D a num last body) : a ≤ 65534 := by have := m.a1; have := m.ok.size; omega
theorem mwrite_mp (m : Mp w W h D g a num last body) (hn : num + 1 < U64) (ht : t.length ≤ 480) (hb : BitsOk w) :
    Calls Tryz.prog 15 #[.pointer (some ⟨g, 0, none⟩), .string (st t)] W fun e W' => e = .returned (.int .i64 0) ∧ ∃ h' D', h'.g = h.g ∧ Mp w W' h' D' g a (num + 1) (1 - last) t := by
  have hl := m.mr.lastB
  refine (mwrite_any h D g a num last t W m.dp.dk m.mr.ok (by rw [m.mr.pend]; simp) m.page m.mr.a0 m.mr.at hl.1 hl.2 (by omega) (hb.later m.dp.below)).mono ?_
  rintro e W' ⟨he, h', h1, h2, h3⟩
  rw [m.mr.steps hn ht] at he h1 h2
  have e4 : stepI 4 = 4 := rfl
  rw [e4] at he h1 h2
  exact ⟨he, h', _, h3.g, m.dp.mtp m.gn h3 h1, m.mr.done hn ht, m.gn, h2⟩
theorem mwrite_long (m : Mp w W h D g a num last body) (hn : num < U64) (ht : 480 < t.length) (hb : BitsOk w) :
    Calls Tryz.prog 15 #[.pointer (some ⟨g, 0, none⟩), .string (st t)] W fun e W' => e = .returned (.int .i64 120) ∧ ∃ h', h'.g = h.g ∧ Mp w W' h' D g a num last body := by
  have hl := m.mr.lastB
  refine (mwrite_any h D g a num last t W m.dp.dk m.mr.ok (by rw [m.mr.pend]; simp) m.page m.mr.a0 m.mr.at hl.1 hl.2 hn (hb.later m.dp.below)).mono ?_
  rintro e W' ⟨he, h', h1, h2, h3⟩
  rw [mtSteps_long ht] at he h1 h2
  exact ⟨he, h', h3.g, m.dp.mtp m.gn h3 h1, m.mr, m.gn, h2⟩
theorem mopen_mp (d : Dp w W h D) (m : Mr D a num last body) {pg : Nat} (hpg : h.g = pg) :
    Calls Tryz.prog 14 #[.pointer (some ⟨pg, 0, none⟩), .int .i64 a] W fun e W' => ∃ g, e = .returned (.tuple #[.pointer (some ⟨g, 0, none⟩), .string (st body), .int .i64 (if num = 0 then 121 else 0)]) ∧ Mp w W' h D g a num last body ∧ Below W.heap.size W W' := by
  subst hpg
  refine (mopen_any h D a W d.dk m.ok m.a0 m.at).mono ?_
  rintro e W' ⟨g, he, h1, h2, h3⟩
  rw [m.mi.open] at he h1
  refine ⟨g, ?_, ⟨d.later h3, m, Nat.le_trans d.below.size h2, h1⟩, h3⟩
  rw [he]
  unfold mtErr
  split <;> rfl
/-- Steps, then a crash. -/
structure Mst (w W : World) (h : Zn) (D : Dsk) (g : Nat) (a : Int) (num : Nat) (last : Int) : Prop where
  dp : Dp w W h D
  gn : w.heap.size ≤ g
  page : Mk W g h a num last
theorem msteps_mp (m : Mp w W h D g a num last body) (hn : num + 1 < U64) (ht : t.length ≤ 480) (hb : BitsOk w) {k : Int} (hk : InI k) :
    Calls Tryz.prog 32 #[.pointer (some ⟨g, 0, none⟩), .string (st t), .int .i64 k] W fun e W' => e = .returned (.tuple #[.bool (decide (stepI k = 4)), .int .i64 0]) ∧ Else W W' ∧ ∃ h', h'.g = h.g ∧
      Mst w W' h' (dAt D (a + (1 - last)) (recB (num + 1) t) (stepI k)) g a (if stepI k = 4 then num + 1 else num) (if stepI k = 4 then 1 - last else last) := by
  have hl := m.mr.lastB
  refine (msteps_any h D g a num last t k W m.dp.dk m.mr.ok (by rw [m.mr.pend]; simp) m.page m.mr.a0 m.mr.at hl.1 hl.2 (by omega) (hb.later m.dp.below) hk).mono ?_
  rintro e W' ⟨he, h', h1, h2, h3⟩
  rw [m.mr.steps hn ht] at he h1 h2
  exact ⟨he, h3.else m.dp.dk m.page, h', h3.g, m.dp.mtp m.gn h3 h1, m.gn, h2⟩
theorem msteps_long (m : Mp w W h D g a num last body) (hn : num < U64) (ht : 480 < t.length) (hb : BitsOk w) {k : Int} (hk : InI k) :
    Calls Tryz.prog 32 #[.pointer (some ⟨g, 0, none⟩), .string (st t), .int .i64 k] W fun e W' => e = .returned (.tuple #[.bool false, .int .i64 120]) ∧ Else W W' ∧ ∃ h', h'.g = h.g ∧ Mp w W' h' D g a num last body := by
  have hl := m.mr.lastB
  refine (msteps_any h D g a num last t k W m.dp.dk m.mr.ok (by rw [m.mr.pend]; simp) m.page m.mr.a0 m.mr.at hl.1 hl.2 hn (hb.later m.dp.below) hk).mono ?_
  rintro e W' ⟨he, h', h1, h2, h3⟩
  rw [mtSteps_long ht] at he h1 h2
  exact ⟨he, h3.else m.dp.dk m.page, h', h3.g, m.dp.mtp m.gn h3 h1, m.mr, m.gn, h2⟩
theorem dcrash_dp {S : Nat → Prop} {v : Value} {l : List (Int × Int)} (d : Dp w W h D) (hok : D.Ok) (hsv : Sv S W v l) (hin : ∀ x ∈ l, InI x.1 ∧ InI x.2) (hll : l.length ≤ 1000000) (hp : D.pend.length ≤ 1000000) {pg : Nat} (hpg : h.g = pg) :
    Calls Tryz.prog 26 #[.pointer (some ⟨pg, 0, none⟩), v] W fun e W' => e = .returned (.tuple #[]) ∧ ∃ h', Dp w W' h' (D.crash l) ∧ h'.g = pg ∧ Stp h W h' W' := by
  subst hpg
  refine (dcrash_any h D S v l W d.dk hok hsv hin hll (by omega)).mono ?_
  rintro e W' ⟨he, h', h1, h2⟩
  exact ⟨he, h', d.stp h2 h1, h2.g, h2⟩
end
end Go.Proofs.YtildohndbeagaaaGreatDoor
