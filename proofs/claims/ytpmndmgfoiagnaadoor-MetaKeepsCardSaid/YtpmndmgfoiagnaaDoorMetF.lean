/- The meta page in its laws: a disk and a page of the law's own. -/
import Derived.Test.YtpmndmgfoiagnaaDoorMetE
import Derived.Test.YtpmndmgfoiagnaaDoorMetQ
import Derived.Test.YtpmndmgfoiagnaaDoorDskX
namespace Go.Proofs.YtpmndmgfoiagnaaDoor
open Go Go.RowKit
set_option linter.unusedVariables false

/-- A disk that the call has made, since w. -/
structure Dp (w W : World) (h : Zn) (D : Dsk) : Prop where
  dk : Dk W h D
  new : ∀ b, h.has b → w.heap.size ≤ b
  below : Below w.heap.size w W
section
variable {w W W' : World} {h h' : Zn} {D D' : Dsk}
theorem Dp.stp (d : Dp w W h D) (s : Stp h W h' W') (k : Dk W' h' D') : Dp w W' h' D' :=
  ⟨k, fun b hb => (s.has b hb).elim (d.new b) (fun h => Nat.le_trans d.below.size h), Turn.below d.below s.turn d.below.size d.new⟩
theorem Dp.mtp (d : Dp w W h D) {g : Nat} (hg : w.heap.size ≤ g) (s : Mtp h g W h' W') (k : Dk W' h' D') : Dp w W' h' D' :=
  ⟨k, fun b hb => (s.has b hb).elim (d.new b) (fun h => Nat.le_trans d.below.size h), Turn.below d.below s.turn d.below.size fun b hb => hb.elim (d.new b) (fun e => by rw [e]; exact hg)⟩
theorem Dp.later (d : Dp w W h D) (hb : Below W.heap.size W W') : Dp w W' h D := ⟨d.dk.later hb, d.new, d.below.trans (hb.mono d.below.size)⟩
theorem Dp.alloc (d : Dp w W h D) (o : Obj) : Dp w (W.alloc o) h D := d.later ((Below.refl _ _).alloc (Nat.le_refl _) o)
/-- Another disk stays. -/
theorem Dk.apart {h2 : Zn} {D2 : Dsk} (d2 : Dk W h2 D2) (d : Dk W h D) (s : Stp h W h' W') (hne : ∀ b, h.has b → ¬ h2.has b) : Dk W' h2 D2 := by
  have key : ∀ b, h2.has b → W'.heap[b]? = W.heap[b]? := fun b hb => s.turn.block b (d2.lt hb) (fun hh => hne b hh hb)
  have hub : ∀ {B : Nat} {v : Value} {l : List UInt8}, Ub W B v l → Ub W' B v l := fun h => s.ub d h
  have hblk : ∀ {g : Nat} {t : TypeId} {cs : Array Value}, Blk W g t cs → t ≠ 65 → t ≠ 84 → Blk W' g t cs := fun h h1 h2 => s.blk d h h1 h2
  have hsec : ∀ {b n : Nat} {f : SF}, Secs W b f n → h2.has b → Secs W' b f n := by
    intro b n f hs hb
    obtain ⟨m, hm, hr⟩ := hs
    exact ⟨m, hm.at (key b hb), fun x hx => (hr x hx).keep fun _ _ h => hub h⟩
  obtain ⟨vs, ho, hp⟩ := d2.pend
  refine ⟨?_, hsec d2.view (.inr (.inl rfl)), hsec d2.ground (.inr (.inr (.inl rfl))), d2.ne, vs, ?_, hp.keep fun v p hv => ?_⟩
  · exact (key _ (.inl rfl)).trans d2.blk
  · refine ⟨ho.1, ?_⟩
    rcases ho.2 with h3 | ⟨g, cap, cur, hv, hB, hh, r⟩
    · exact .inl h3
    · refine .inr ⟨g, cap, cur, hv, hB, ?_, r⟩
      exact (key g (.inr (.inr (.inr (by rw [hv]; rfl))))).trans hh
  · cases p with
    | wr a b =>
      obtain ⟨ga, gb, A, c, h1, h3, h4, h5⟩ := hv
      exact ⟨ga, gb, A, c, h1, hblk h3 (by decide) (by decide), hblk h4 (by decide) (by decide), hub h5⟩
    | fr a =>
      obtain ⟨ga, h1, h3⟩ := hv
      exact ⟨ga, h1, hblk h3 (by decide) (by decide)⟩
end

/-- What is of other kinds has stayed. -/
def Else (W W' : World) : Prop := ∀ {g : Nat} {t : TypeId} {cs : Array Value}, Blk W g t cs → t ≠ 65 → t ≠ 84 → t ≠ 70 → Blk W' g t cs
theorem Mtp.else {W W' : World} {h h' : Zn} {D : Dsk} {g : Nat} {a : Int} {num : Nat} {last : Int} (s : Mtp h g W h' W') (d : Dk W h D) (m : Mk W g h a num last) : Else W W' := by
  intro z t cs hb h1 h2 h3
  refine hb.turn s.turn fun e => ?_
  have hk := kind_blk hb
  rcases e with e | rfl
  · rcases d.kinds e with h4 | h4 | h4
    · rw [hk] at h4; injection h4 with h4; injection h4 with h4; exact h1 h4
    · rw [hk] at h4; injection h4 with h4; cases h4
    · rw [hk] at h4; injection h4 with h4; injection h4 with h4; exact h2 h4
  · rw [kind_blk m.blk] at hk
    injection hk with hk
    injection hk with hk
    exact h3 hk.symm
theorem Stp.else {W W' : World} {h h' : Zn} {D : Dsk} (s : Stp h W h' W') (d : Dk W h D) : Else W W' := fun hb h1 h2 _ => s.blk d hb h1 h2

/-- A page that the law has opened on it, and nothing is pending. -/
structure Mp (w W : World) (h : Zn) (D : Dsk) (g : Nat) (a : Int) (num : Nat) (last : Int) (body : List UInt8) : Prop where
  dp : Dp w W h D
  mr : Mr D a num last body
  gn : w.heap.size ≤ g
  page : Mk W g h a num last
section
variable {w W W' : World} {h h' : Zn} {D D' : Dsk} {g : Nat} {a : Int} {num : Nat} {last : Int} {body t : List UInt8}
theorem Mp.later (m : Mp w W h D g a num last body) (hb : Below W.heap.size W W') : Mp w W' h D g a num last body := ⟨m.dp.later hb, m.mr, m.gn, m.page.later hb⟩
theorem Mp.alloc (m : Mp w W h D g a num last body) (o : Obj) : Mp w (W.alloc o) h D g a num last body := m.later ((Below.refl _ _).alloc (Nat.le_refl _) o)
theorem Mr.lastB (m : Mr D a num last body) : 0 ≤ last ∧ last ≤ 1 := by have := m.mi.l01; omega
theorem Mr.at (m : Mr D a num last body) : a ≤ 65534 := by have := m.a1; have := m.ok.size; omega
theorem mwrite_mp (m : Mp w W h D g a num last body) (hn : num + 1 < U64) (ht : t.length ≤ 480) (hb : BitsOk w) :
    Calls Tryd.prog 12 #[.pointer (some ⟨g, 0, none⟩), .string (st t)] W fun e W' => e = .returned (.int .i64 0) ∧ ∃ h' D', h'.g = h.g ∧ Mp w W' h' D' g a (num + 1) (1 - last) t := by
  have hl := m.mr.lastB
  refine (mwrite_any h D g a num last t W m.dp.dk m.mr.ok (by rw [m.mr.pend]; simp) m.page m.mr.a0 m.mr.at hl.1 hl.2 (by omega) (hb.later m.dp.below)).mono ?_
  rintro e W' ⟨he, h', h1, h2, h3⟩
  rw [m.mr.steps hn ht] at he h1 h2
  have e4 : stepI 4 = 4 := rfl
  rw [e4] at he h1 h2
  exact ⟨he, h', _, h3.g, m.dp.mtp m.gn h3 h1, m.mr.done hn ht, m.gn, h2⟩
theorem mwrite_long (m : Mp w W h D g a num last body) (hn : num < U64) (ht : 480 < t.length) (hb : BitsOk w) :
    Calls Tryd.prog 12 #[.pointer (some ⟨g, 0, none⟩), .string (st t)] W fun e W' => e = .returned (.int .i64 120) ∧ ∃ h', h'.g = h.g ∧ Mp w W' h' D g a num last body := by
  have hl := m.mr.lastB
  refine (mwrite_any h D g a num last t W m.dp.dk m.mr.ok (by rw [m.mr.pend]; simp) m.page m.mr.a0 m.mr.at hl.1 hl.2 hn (hb.later m.dp.below)).mono ?_
  rintro e W' ⟨he, h', h1, h2, h3⟩
  rw [mtSteps_long ht] at he h1 h2
  exact ⟨he, h', h3.g, m.dp.mtp m.gn h3 h1, m.mr, m.gn, h2⟩
theorem mopen_mp (d : Dp w W h D) (m : Mr D a num last body) {pg : Nat} (hpg : h.g = pg) :
    Calls Tryd.prog 8 #[.pointer (some ⟨pg, 0, none⟩), .int .i64 a] W fun e W' => ∃ g, e = .returned (.tuple #[.pointer (some ⟨g, 0, none⟩), .string (st body), .int .i64 (if num = 0 then 121 else 0)]) ∧ Mp w W' h D g a num last body ∧ Below W.heap.size W W' := by
  subst hpg
  refine (mopen_any h D a W d.dk m.ok m.a0 m.at).mono ?_
  rintro e W' ⟨g, he, h1, h2, h3⟩
  rw [m.mi.open] at he h1
  refine ⟨g, ?_, ⟨d.later h3, m, Nat.le_trans d.below.size h2, h1⟩, h3⟩
  rw [he]
  unfold mtErr
  split <;> rfl
/-- Steps, then a crash. -/
structure Mst (w W : World) (h : Zn) (D : Dsk) (g : Nat) (a : Int) (num : Nat) (last : Int) : Prop where
  dp : Dp w W h D
  gn : w.heap.size ≤ g
  page : Mk W g h a num last
theorem msteps_mp (m : Mp w W h D g a num last body) (hn : num + 1 < U64) (ht : t.length ≤ 480) (hb : BitsOk w) {k : Int} (hk : InI k) :
    Calls Tryd.prog 10 #[.pointer (some ⟨g, 0, none⟩), .string (st t), .int .i64 k] W fun e W' => e = .returned (.tuple #[.bool (decide (stepI k = 4)), .int .i64 0]) ∧ Else W W' ∧ ∃ h', h'.g = h.g ∧
      Mst w W' h' (dAt D (a + (1 - last)) (recB (num + 1) t) (stepI k)) g a (if stepI k = 4 then num + 1 else num) (if stepI k = 4 then 1 - last else last) := by
  have hl := m.mr.lastB
  refine (msteps_any h D g a num last t k W m.dp.dk m.mr.ok (by rw [m.mr.pend]; simp) m.page m.mr.a0 m.mr.at hl.1 hl.2 (by omega) (hb.later m.dp.below) hk).mono ?_
  rintro e W' ⟨he, h', h1, h2, h3⟩
  rw [m.mr.steps hn ht] at he h1 h2
  exact ⟨he, h3.else m.dp.dk m.page, h', h3.g, m.dp.mtp m.gn h3 h1, m.gn, h2⟩
theorem msteps_long (m : Mp w W h D g a num last body) (hn : num < U64) (ht : 480 < t.length) (hb : BitsOk w) {k : Int} (hk : InI k) :
    Calls Tryd.prog 10 #[.pointer (some ⟨g, 0, none⟩), .string (st t), .int .i64 k] W fun e W' => e = .returned (.tuple #[.bool false, .int .i64 120]) ∧ Else W W' ∧ ∃ h', h'.g = h.g ∧ Mp w W' h' D g a num last body := by
  have hl := m.mr.lastB
  refine (msteps_any h D g a num last t k W m.dp.dk m.mr.ok (by rw [m.mr.pend]; simp) m.page m.mr.a0 m.mr.at hl.1 hl.2 hn (hb.later m.dp.below) hk).mono ?_
  rintro e W' ⟨he, h', h1, h2, h3⟩
  rw [mtSteps_long ht] at he h1 h2
  exact ⟨he, h3.else m.dp.dk m.page, h', h3.g, m.dp.mtp m.gn h3 h1, m.mr, m.gn, h2⟩
theorem dcrash_dp {S : Nat → Prop} {v : Value} {l : List (Int × Int)} (d : Dp w W h D) (hok : D.Ok) (hsv : Sv S W v l) (hin : ∀ x ∈ l, InI x.1 ∧ InI x.2) (hll : l.length ≤ 1000000) (hp : D.pend.length ≤ 1000000) {pg : Nat} (hpg : h.g = pg) :
    Calls Tryd.prog 11 #[.pointer (some ⟨pg, 0, none⟩), v] W fun e W' => e = .returned (.tuple #[]) ∧ ∃ h', Dp w W' h' (D.crash l) ∧ h'.g = pg ∧ Stp h W h' W' := by
  subst hpg
  refine (dcrash_any h D S v l W d.dk hok hsv hin hll (by omega)).mono ?_
  rintro e W' ⟨he, h', h1, h2⟩
  exact ⟨he, h', d.stp h2 h1, h2.g, h2⟩
theorem dcopy_dp (d : Dp w W h D) (hok : D.Ok) (hne : ∃ x, InI x ∧ (D.view x).isSome ≠ (D.ground x).isSome) (hp : D.pend.length ≤ 1000000) {pg : Nat} (hpg : h.g = pg) :
    Calls Tryd.prog 21 #[.pointer (some ⟨pg, 0, none⟩)] W fun e W' => ∃ h', e = .returned (.pointer (some ⟨h'.g, 0, none⟩)) ∧ Dp w W' h' D ∧ Dp w W' h D ∧ ∀ b, h.has b → ¬ h'.has b := by
  subst hpg
  refine (dcopy_any h D W d.dk hok hne hp).mono ?_
  rintro e W' ⟨h', he, h1, h2, h3⟩
  refine ⟨h', he, ⟨h1, fun b hb => Nat.le_trans d.below.size (h2 b hb), d.below.trans (h3.mono d.below.size)⟩, d.later h3, fun b hb hb' => ?_⟩
  have := d.dk.lt hb
  have := h2 b hb'
  omega
end
end Go.Proofs.YtpmndmgfoiagnaaDoor
