/- What the proof of MetaPlays needs, part 6. -/
import Derived.Test.YtpmndmgfoiagnaaDoorMetaPlaysJ5
import Derived.BigQuiet
import Derived.Deep.QuietTactic
import Derived.Deep.RegionLaw

namespace Go.Proofs.YtpmndmgfoiagnaaDoor
open Go Go.RowKit
set_option linter.unusedVariables false

/-- A disk that the call has made, since w. -/
structure Dp (w W : World) (h : Zn) (D : Dsk) : Prop where
  dk : Dk W h D
  new : ∀ b, h.has b → w.heap.size ≤ b
  below : Below w.heap.size w W
section
variable {w W W' : World} {h h' : Zn} {D D' : Dsk}
theorem Dp.stp (d : Dp w W h D) (s : Stp h W h' W') (k : Dk W' h' D') : Dp w W' h' D' :=
  ⟨k, fun b hb => (s.has b hb).elim (d.new b) (fun h => Nat.le_trans d.below.size h), Turn.below d.below s.turn d.below.size d.new⟩
theorem Dp.mtp (d : Dp w W h D) {g : Nat} (hg : w.heap.size ≤ g) (s : Mtp h g W h' W') (k : Dk W' h' D') : Dp w W' h' D' :=
  ⟨k, fun b hb => (s.has b hb).elim (d.new b) (fun h => Nat.le_trans d.below.size h), Turn.below d.below s.turn d.below.size fun b hb => hb.elim (d.new b) (fun e => by rw [e]; exact hg)⟩
theorem Dp.later (d : Dp w W h D) (hb : Below W.heap.size W W') : Dp w W' h D := ⟨d.dk.later hb, d.new, d.below.trans (hb.mono d.below.size)⟩
theorem Dp.alloc (d : Dp w W h D) (o : Obj) : Dp w (W.alloc o) h D := d.later ((Below.refl _ _).alloc (Nat.le_refl _) o)
/-- Another disk stays. -/
theorem Dk.apart {h2 : Zn} {D2 : Dsk} (d2 : Dk W h2 D2) (d : Dk W h D) (s : Stp h W h' W') (hne : ∀ b, h.has b → ¬ h2.has b) : Dk W' h2 D2 := by
  have key : ∀ b, h2.has b → W'.heap[b]? = W.heap[b]? := fun b hb => s.turn.block b (d2.lt hb) (fun hh => hne b hh hb)
  have hub : ∀ {B : Nat} {v : Value} {l : List UInt8}, Ub W B v l → Ub W' B v l := fun h => s.ub d h
  have hblk : ∀ {g : Nat} {t : TypeId} {cs : Array Value}, Blk W g t cs → t ≠ 65 → t ≠ 84 → Blk W' g t cs := fun h h1 h2 => s.blk d h h1 h2
  have hsec : ∀ {b n : Nat} {f : SF}, Secs W b f n → h2.has b → Secs W' b f n := by
    intro b n f hs hb
    obtain ⟨m, hm, hr⟩ := hs
    exact ⟨m, hm.at (key b hb), fun x hx => (hr x hx).keep fun _ _ h => hub h⟩
  obtain ⟨vs, ho, hp⟩ := d2.pend
  refine ⟨?_, hsec d2.view (.inr (.inl rfl)), hsec d2.ground (.inr (.inr (.inl rfl))), d2.ne, vs, ?_, hp.keep fun v p hv => ?_⟩
  · exact (key _ (.inl rfl)).trans d2.blk
  · refine ⟨ho.1, ?_⟩
    rcases ho.2 with h3 | ⟨g, cap, cur, hv, hB, hh, r⟩
    · exact .inl h3
    · refine .inr ⟨g, cap, cur, hv, hB, ?_, r⟩
      exact (key g (.inr (.inr (.inr (by rw [hv]; rfl))))).trans hh
  · cases p with
    | wr a b =>
      obtain ⟨ga, gb, A, c, h1, h3, h4, h5⟩ := hv
      exact ⟨ga, gb, A, c, h1, hblk h3 (by decide) (by decide), hblk h4 (by decide) (by decide), hub h5⟩
    | fr a =>
      obtain ⟨ga, h1, h3⟩ := hv
      exact ⟨ga, h1, hblk h3 (by decide) (by decide)⟩
end

/-- What is of other kinds has stayed. -/
def Else (W W' : World) : Prop := ∀ {g : Nat} {t : TypeId} {cs : Array Value}, Blk W g t cs → t ≠ 65 → t ≠ 84 → t ≠ 70 → Blk W' g t cs
theorem Mtp.else {W W' : World} {h h' : Zn} {D : Dsk} {g : Nat} {a : Int} {num : Nat} {last : Int} (s : Mtp h g W h' W') (d : Dk W h D) (m : Mk W g h a num last) : Else W W' := by
  intro z t cs hb h1 h2 h3
  refine hb.turn s.turn fun e => ?_
  have hk := kind_blk hb
  rcases e with e | rfl
  · rcases d.kinds e with h4 | h4 | h4
    · rw [hk] at h4; injection h4 with h4; injection h4 with h4; exact h1 h4
    · rw [hk] at h4; injection h4 with h4; cases h4
    · rw [hk] at h4; injection h4 with h4; injection h4 with h4; exact h2 h4
  · rw [kind_blk m.blk] at hk
    injection hk with hk
    injection hk with hk
    exact h3 hk.symm
theorem Stp.else {W W' : World} {h h' : Zn} {D : Dsk} (s : Stp h W h' W') (d : Dk W h D) : Else W W' := fun hb h1 h2 _ => s.blk d hb h1 h2

/-- A page that the law has opened on it, and nothing is pending. -/
structure Mp (w W : World) (h : Zn) (D : Dsk) (g : Nat) (a : Int) (num : Nat) (last : Int) (body : List UInt8) : Prop where
  dp : Dp w W h D
  mr : Mr D a num last body
  gn : w.heap.size ≤ g
  page : Mk W g h a num last
section
variable {w W W' : World} {h h' : Zn} {D D' : Dsk} {g : Nat} {a : Int} {num : Nat} {last : Int} {body t : List UInt8}
theorem Mp.later (m : Mp w W h D g a num last body) (hb : Below W.heap.size W W') : Mp w W' h D g a num last body := ⟨m.dp.later hb, m.mr, m.gn, m.page.later hb⟩
theorem Mp.alloc (m : Mp w W h D g a num last body) (o : Obj) : Mp w (W.alloc o) h D g a num last body := m.later ((Below.refl _ _).alloc (Nat.le_refl _) o)
theorem Mr.lastB (m : Mr D a num last body) : 0 ≤ last ∧ last ≤ 1 := by have := m.mi.l01; omega
theorem Mr.at (m : Mr D a num last body) : a ≤ 65534 := by have := m.a1; have := m.ok.size; omega
theorem mwrite_mp (m : Mp w W h D g a num last body) (hn : num + 1 < U64) (ht : t.length ≤ 480) (hb : BitsOk w) :
    Calls Tryd.prog 12 #[.pointer (some ⟨g, 0, none⟩), .string (st t)] W fun e W' => e = .returned (.int .i64 0) ∧ ∃ h' D', h'.g = h.g ∧ Mp w W' h' D' g a (num + 1) (1 - last) t := by
  have hl := m.mr.lastB
  refine (mwrite_any h D g a num last t W m.dp.dk m.mr.ok (by rw [m.mr.pend]; simp) m.page m.mr.a0 m.mr.at hl.1 hl.2 (by omega) (hb.later m.dp.below)).mono ?_
  rintro e W' ⟨he, h', h1, h2, h3⟩
  rw [m.mr.steps hn ht] at he h1 h2
  have e4 : stepI 4 = 4 := rfl
  rw [e4] at he h1 h2
  exact ⟨he, h', _, h3.g, m.dp.mtp m.gn h3 h1, m.mr.done hn ht, m.gn, h2⟩
theorem mwrite_long (m : Mp w W h D g a num last body) (hn : num < U64) (ht : 480 < t.length) (hb : BitsOk w) :
    Calls Tryd.prog 12 #[.pointer (some ⟨g, 0, none⟩), .string (st t)] W fun e W' => e = .returned (.int .i64 120) ∧ ∃ h', h'.g = h.g ∧ Mp w W' h' D g a num last body := by
  have hl := m.mr.lastB
  refine (mwrite_any h D g a num last t W m.dp.dk m.mr.ok (by rw [m.mr.pend]; simp) m.page m.mr.a0 m.mr.at hl.1 hl.2 hn (hb.later m.dp.below)).mono ?_
  rintro e W' ⟨he, h', h1, h2, h3⟩
  rw [mtSteps_long ht] at he h1 h2
  exact ⟨he, h', h3.g, m.dp.mtp m.gn h3 h1, m.mr, m.gn, h2⟩
theorem mopen_mp (d : Dp w W h D) (m : Mr D a num last body) {pg : Nat} (hpg : h.g = pg) :
    Calls Tryd.prog 8 #[.pointer (some ⟨pg, 0, none⟩), .int .i64 a] W fun e W' => ∃ g, e = .returned (.tuple #[.pointer (some ⟨g, 0, none⟩), .string (st body), .int .i64 (if num = 0 then 121 else 0)]) ∧ Mp w W' h D g a num last body ∧ Below W.heap.size W W' := by
  subst hpg
  refine (mopen_any h D a W d.dk m.ok m.a0 m.at).mono ?_
  rintro e W' ⟨g, he, h1, h2, h3⟩
  rw [m.mi.open] at he h1
  refine ⟨g, ?_, ⟨d.later h3, m, Nat.le_trans d.below.size h2, h1⟩, h3⟩
  rw [he]
  unfold mtErr
  split <;> rfl
/-- Steps, then a crash. -/
structure Mst (w W : World) (h : Zn) (D : Dsk) (g : Nat) (a : Int) (num : Nat) (last : Int) : Prop where
  dp : Dp w W h D
  gn : w.heap.size ≤ g
  page : Mk W g h a num last
theorem msteps_mp (m : Mp w W h D g a num last body) (hn : num + 1 < U64) (ht : t.length ≤ 480) (hb : BitsOk w) {k : Int} (hk : InI k) :
    Calls Tryd.prog 10 #[.pointer (some ⟨g, 0, none⟩), .string (st t), .int .i64 k] W fun e W' => e = .returned (.tuple #[.bool (decide (stepI k = 4)), .int .i64 0]) ∧ Else W W' ∧ ∃ h', h'.g = h.g ∧
      Mst w W' h' (dAt D (a + (1 - last)) (recB (num + 1) t) (stepI k)) g a (if stepI k = 4 then num + 1 else num) (if stepI k = 4 then 1 - last else last) := by
  have hl := m.mr.lastB
  refine (msteps_any h D g a num last t k W m.dp.dk m.mr.ok (by rw [m.mr.pend]; simp) m.page m.mr.a0 m.mr.at hl.1 hl.2 (by omega) (hb.later m.dp.below) hk).mono ?_
  rintro e W' ⟨he, h', h1, h2, h3⟩
  rw [m.mr.steps hn ht] at he h1 h2
  exact ⟨he, h3.else m.dp.dk m.page, h', h3.g, m.dp.mtp m.gn h3 h1, m.gn, h2⟩
theorem msteps_long (m : Mp w W h D g a num last body) (hn : num < U64) (ht : 480 < t.length) (hb : BitsOk w) {k : Int} (hk : InI k) :
    Calls Tryd.prog 10 #[.pointer (some ⟨g, 0, none⟩), .string (st t), .int .i64 k] W fun e W' => e = .returned (.tuple #[.bool false, .int .i64 120]) ∧ Else W W' ∧ ∃ h', h'.g = h.g ∧ Mp w W' h' D g a num last body := by
  have hl := m.mr.lastB
  refine (msteps_any h D g a num last t k W m.dp.dk m.mr.ok (by rw [m.mr.pend]; simp) m.page m.mr.a0 m.mr.at hl.1 hl.2 hn (hb.later m.dp.below) hk).mono ?_
  rintro e W' ⟨he, h', h1, h2, h3⟩
  rw [mtSteps_long ht] at he h1 h2
  exact ⟨he, h3.else m.dp.dk m.page, h', h3.g, m.dp.mtp m.gn h3 h1, m.mr, m.gn, h2⟩
theorem dcrash_dp {S : Nat → Prop} {v : Value} {l : List (Int × Int)} (d : Dp w W h D) (hok : D.Ok) (hsv : Sv S W v l) (hin : ∀ x ∈ l, InI x.1 ∧ InI x.2) (hll : l.length ≤ 1000000) (hp : D.pend.length ≤ 1000000) {pg : Nat} (hpg : h.g = pg) :
    Calls Tryd.prog 11 #[.pointer (some ⟨pg, 0, none⟩), v] W fun e W' => e = .returned (.tuple #[]) ∧ ∃ h', Dp w W' h' (D.crash l) ∧ h'.g = pg ∧ Stp h W h' W' := by
  subst hpg
  refine (dcrash_any h D S v l W d.dk hok hsv hin hll (by omega)).mono ?_
  rintro e W' ⟨he, h', h1, h2⟩
  exact ⟨he, h', d.stp h2 h1, h2.g, h2⟩
theorem dcopy_dp (d : Dp w W h D) (hok : D.Ok) (hne : ∃ x, InI x ∧ (D.view x).isSome ≠ (D.ground x).isSome) (hp : D.pend.length ≤ 1000000) {pg : Nat} (hpg : h.g = pg) :
    Calls Tryd.prog 21 #[.pointer (some ⟨pg, 0, none⟩)] W fun e W' => ∃ h', e = .returned (.pointer (some ⟨h'.g, 0, none⟩)) ∧ Dp w W' h' D ∧ Dp w W' h D ∧ ∀ b, h.has b → ¬ h'.has b := by
  subst hpg
  refine (dcopy_any h D W d.dk hok hne hp).mono ?_
  rintro e W' ⟨h', he, h1, h2, h3⟩
  refine ⟨h', he, ⟨h1, fun b hb => Nat.le_trans d.below.size (h2 b hb), d.below.trans (h3.mono d.below.size)⟩, d.later h3, fun b hb hb' => ?_⟩
  have := d.dk.lt hb
  have := h2 b hb'
  omega
end
end Go.Proofs.YtpmndmgfoiagnaaDoor

namespace Go.Proofs.YtpmndmgfoiagnaaDoor
open Go Go.RowKit
set_option linter.unusedVariables false

theorem Sv.one {S : Nat → Prop} (w : World) (x y : Int) {g : Nat} (hg : g = w.heap.size) (hS : S g) : Sv S (w.alloc (.cells #[.int .i64 x, .int .i64 y] 68)) (.slice (some ⟨g, 0, none⟩) 1 1) [(x, y)] := by
  subst hg
  refine ⟨rfl, _, _, rfl, Nat.le_refl _, by simp [maxLen], fun h => (by cases h), fun _ => ⟨_, 0, rfl, hS, fun j u hj => ?_⟩⟩
  have hb := Blk.new w 68 #[.int .i64 x, .int .i64 y]
  match j, hj with
  | 0, hj => rw [← Option.some.inj hj]; exact hb.cell 0
  | 1, hj => rw [← Option.some.inj hj]; exact hb.cell 1
  | j + 2, hj => simp [pcs] at hj

theorem rec_one {q : Nat} (hq : q < U64) {c : UInt8} : (recB q [c]).length ≤ (500 : Int).toNat := by
  have h1 := varB_le10 hq
  have h2 := varB_le 1 [c].length (by simp)
  rw [recB_len]
  unfold recF
  rw [List.length_append, List.length_append]
  simp only [List.length_cons, List.length_nil] at h2 ⊢
  omega
theorem dAt3 {D : Dsk} {a : Int} {num : Nat} {last : Int} {body t : List UInt8} (m : Mr D a num last body) (hn : num + 1 < U64) (ht : t.length ≤ 480) :
    (dAt D (a + (1 - last)) (recB (num + 1) t) 3).view = (D.view.del (a + (1 - last))).put (a + (1 - last)) (recB (num + 1) t) ∧ (dAt D (a + (1 - last)) (recB (num + 1) t) 3).ground = D.view.del (a + (1 - last)) := by
  have hw := m.two.why (recB_short hn ht)
  rw [show dAt D (a + (1 - last)) (recB (num + 1) t) 3 = (D.free (a + (1 - last))).sync.write (a + (1 - last)) (recB (num + 1) t) from rfl, write_view hw]
  refine ⟨?_, ?_⟩
  · rw [put_view]
    show (D.free (a + (1 - last))).view.put _ _ = _
    rw [free_view]
  · show (D.free (a + (1 - last))).view = _
    rw [free_view]
theorem awake12_ne {D : Dsk} {a : Int} {num : Nat} {last : Int} {body t : List UInt8} (m : Mr D a num last body) (hn : num + 1 < U64) (ht : t.length ≤ 480) :
    ∃ x, InI x ∧ ((dAt D (a + (1 - last)) (recB (num + 1) t) 3).view x).isSome ≠ ((dAt D (a + (1 - last)) (recB (num + 1) t) 3).ground x).isSome := by
  obtain ⟨h1, h2⟩ := dAt3 m hn ht
  have := m.at
  have := m.a0
  have := m.mi.l01
  refine ⟨a + (1 - last), by unfold InI; omega, ?_⟩
  rw [h1, h2]
  unfold SF.put SF.del
  simp
theorem awake12_pend {D : Dsk} {x : Int} {b : List UInt8} {a : Int} {num : Nat} {last : Int} {body : List UInt8} (m : Mr D a num last body) : (dAt D x b 3).pend.length ≤ 1000000 := by
  have := dAt_pend D x b 3
  have h := m.pend
  rw [h] at this
  simp at this
  omega
theorem Dp.apart {w W W' : World} {h h' h2 : Zn} {D D2 : Dsk} (d2 : Dp w W h2 D2) (d : Dp w W h D) (s : Stp h W h' W') (hne : ∀ b, h.has b → ¬ h2.has b) : Dp w W' h2 D2 :=
  ⟨d2.dk.apart d.dk s hne, d2.new, Turn.below d.below s.turn d.below.size d.new⟩

set_option maxHeartbeats 4000000 in
set_option maxRecDepth 100000 in
theorem awake12_any (w : World) (hb : BitsOk w) : Calls Tryd.prog 7 #[] w fun e w' => e = .returned (.bool true) ∧ Below w.heap.size w w' := by
  have HB := Lib.hid hb
  have MR0 : Hid (Mr (Dsk.new 9) 0 0 1 []) := Mr.start (by omega) (by omega) (by omega) (by omega)
  have u64 : Hid (3 < U64) := by rw [Hid]; unfold U64; omega
  clear hb
  go_enter Tryd.func7, Tryd.ntmps7
  go_wp2_with fail
  refine (dnew_any 9 w (by omega) (by omega)).mono ?_
  rintro e w1 ⟨h, rfl, hd, hnew, hbl⟩
  have D1 : Hid (Dp w w1 h (Dsk.new 9)) := ⟨hd, hnew, hbl⟩
  clear hd hnew hbl
  go_wp2_with fail
  refine (mopen_mp D1.out MR0.out rfl).mono ?_
  rintro e w2 ⟨g, he, hm, -⟩
  rw [if_pos rfl] at he
  subst he
  have M2 := Lib.hid hm
  clear hm
  go_wp2_with fail
  refine (mwrite_mp (t := [97]) M2.out (by have := u64.out; omega) (by simp) HB.out).mono ?_
  rintro e w3 ⟨rfl, h3, D3, hg3, hm⟩
  have M3 := Lib.hid hm
  have G3 := Lib.hid hg3
  clear hm hg3
  go_wp2_with fail
  refine (mwrite_mp (t := [98]) M3.out (by have := u64.out; omega) (by simp) HB.out).mono ?_
  rintro e w4 ⟨rfl, h4, D4, hg4, hm⟩
  have M4 : Hid (Mp w w4 h4 D4 g 0 2 1 [98]) := hm
  have G4 : Hid (h4.g = h.g) := hg4.trans G3.out
  clear hm hg4 G3 M3
  go_wp2_with fail
  refine (msteps_mp (t := [99]) (k := 3) M4.out u64.out (by simp) HB.out (by unfold InI; omega)).mono ?_
  rintro e w5 ⟨rfl, -, h5, hg5, hm⟩
  have M5 : Hid (Mst w w5 h5 (dAt D4 (0 + (1 - 1)) (recB 3 [99]) 3) g 0 2 1) := hm
  have G5 : Hid (h5.g = h.g) := hg5.trans G4.out
  have e5 : decide (stepI 3 = 4) = false := rfl
  clear hm hg5 G4
  go_wp2_with fail
  refine (dcopy_dp M5.out.dp (dAt_ok M4.out.mr.ok _ _ 3) ?hne ?hp G5.out).mono ?_
  case hne => exact awake12_ne M4.out.mr u64.out (by simp)
  case hp => exact awake12_pend M4.out.mr
  rintro e w6 ⟨h6, rfl, hc, hd, hap⟩
  have C6 := Lib.hid hc
  have D6 := Lib.hid hd
  have A6 := Lib.hid hap
  clear hc hd hap
  go_wp2_with fail
  refine (dcrash_dp (S := fun _ => True) (l := []) D6.out (dAt_ok M4.out.mr.ok _ _ 3) Sl.nil (by simp) (by simp) (awake12_pend M4.out.mr) G5.out).mono ?_
  rintro e w7 ⟨rfl, h7, hd, hg7, hs⟩
  have D7 := Lib.hid hd
  have G7 := Lib.hid hg7
  have C7 := Lib.hid (C6.out.apart D6.out hs A6.out)
  have A7 : Hid (∀ b, h6.has b → ¬ h7.has b) := fun b hb hb' => (hs.has b hb').elim (fun h => A6.out b h hb) (fun h => by have := C6.out.dk.lt hb; omega)
  clear hd hg7 hs
  go_wp2_with fail
  have QA := Lib.hid ((Below.refl w7.heap.size w7).alloc (Nat.le_refl _) (.cells #[.int .i64 0, .int .i64 500] 68))
  refine (dcrash_dp (S := fun _ => True) (l := [(0, 500)]) (C7.out.later QA.out) (dAt_ok M4.out.mr.ok _ _ 3) (Sv.one w7 0 500 rfl trivial) (by simp [InI]) (by simp) (awake12_pend M4.out.mr) rfl).mono ?_
  rintro e w8 ⟨rfl, h8, hc, hg8, hs⟩
  have C8 := Lib.hid hc
  have G8 := Lib.hid hg8
  have D8 := Lib.hid ((D7.out.later QA.out).apart (C7.out.later QA.out) hs A7.out)
  clear hc hg8 hs
  go_wp2_with fail
  refine (mopen_mp D8.out ((M4.out.mr.crash3 (t := [99]) u64.out (by simp) []).1 rfl) G7.out).mono ?_
  rintro e w9 ⟨g9, he, -, hb9⟩
  rw [if_neg (by omega)] at he
  subst he
  have C9 := Lib.hid (C8.out.later hb9)
  clear hb9
  go_wp2_with fail
  refine (mopen_mp C9.out ((M4.out.mr.crash3 (t := [99]) u64.out (by simp) [(0, 500)]).2 500 rfl (rec_one u64.out)) G8.out).mono ?_
  rintro e w10 ⟨g10, he, hm, -⟩
  rw [if_neg (by omega)] at he
  subst he
  have M10 := Lib.hid hm
  clear hm
  go_wp2_with fail
  refine (mnumber_any _ g10 0 3 0 w10 M10.out.page).mono ?_
  rintro e w11 ⟨rfl, rfl⟩
  go_wp2_with fail
  go_ret
  exact ⟨rfl, M10.out.dp.below⟩
end Go.Proofs.YtpmndmgfoiagnaaDoor

namespace Go.Proofs.YtpmndmgfoiagnaaDoor
open Go Go.RowKit
set_option linter.unusedVariables false

/-- An act: v is the slice value of what is left. -/
structure MAct where
  kind : Int
  steps : Int
  body : List UInt8
  left : List (Int × Int)
  v : Value
def MAct.Ok (w : World) (x : MAct) : Prop := InI x.kind ∧ InI x.steps ∧ (∀ y ∈ x.left, InI y.1 ∧ InI y.2) ∧ Sv (fun b => b < w.heap.size) w x.v x.left
/-- The slice value v reads as the acts xs. -/
def Acts (w : World) (v : Value) (xs : List MAct) : Prop := ∃ A c, v = .slice A xs.length c ∧ xs.length ≤ 9223372036854775807 ∧ (∀ x ∈ xs, x.Ok w) ∧
  (0 < xs.length → ∃ b o, A = some ⟨b, o, none⟩ ∧ b < w.heap.size ∧ ∀ j (hj : j < xs.length), w.cell? ⟨b, o + j * 4, none⟩ = some (.int .i64 xs[j].kind) ∧ w.cell? ⟨b, o + j * 4 + 1, none⟩ = some (.int .i64 xs[j].steps) ∧
    w.cell? ⟨b, o + j * 4 + 2, none⟩ = some (.string (st xs[j].body)) ∧ w.cell? ⟨b, o + j * 4 + 3, none⟩ = some xs[j].v)
theorem Sv.pre {S : Nat → Prop} {w : World} {n c : Nat} {A : Option Addr} {l : List (Int × Int)} (h : Sv S w (.slice A n c) l) {k : Nat} (hk : k ≤ l.length) : Sv S w (.slice A k c) (l.take k) := by
  obtain ⟨h1, A', c', hv, h3, h4, h5, h6⟩ := h
  cases hv
  have hpt : ∀ (l : List (Int × Int)) (k : Nat), (pcs l).take (k * 2) = pcs (l.take k) := by
    intro l
    induction l with
    | nil => intro k; simp [pcs]
    | cons r rs ih =>
      intro k
      rcases k with _ | k
      · simp [pcs]
      · have := ih k
        rw [show (k + 1) * 2 = k * 2 + 1 + 1 by omega]
        simp only [pcs, List.flatMap_cons, List.take_succ_cons] at this ⊢
        simp only [List.cons_append, List.nil_append, List.take_succ_cons]
        rw [this]
  have e : (l.take k).length = k := by rw [List.length_take]; omega
  refine ⟨by rw [pcs_len], A, c, by rw [e], by omega, h4, h5, fun hn => ?_⟩
  obtain ⟨b, o, ha, hs, hc⟩ := h6 (by omega)
  refine ⟨b, o, ha, hs, fun j u hu => ?_⟩
  rw [← hpt] at hu
  have hj := (List.getElem?_eq_some_iff.1 hu).1
  rw [List.length_take] at hj
  rw [List.getElem?_take_of_lt (by omega)] at hu
  exact hc j u hu
theorem Sv.later {w w' : World} {v : Value} {l : List (Int × Int)} {B : Nat} (h : Sv (fun b => b < B) w v l) (hb : Below B w w') : Sv (fun b => b < B) w' v l :=
  Sl.keep h fun b o hs => World.cell?_of_block (hb.block b hs)
theorem actTy : StructTy Tryd.prog 33 4 := ⟨⟨_, Tryd.underlying33⟩, by kernel_rfl⟩

structure FwSt (w W : World) (X Z : Array Value) : Prop where
  x : Blk W w.heap.size 33 X
  z : Blk W (w.heap.size + 1) 33 Z
  below : Below w.heap.size w W
theorem FwSt.start (w : World) (X Z : Array Value) : FwSt w ((w.alloc (.cells X 33)).alloc (.cells Z 33)) X Z := by
  refine ⟨(Blk.new _ _ _).alloc _, ?_, ((Below.refl _ _).alloc (Nat.le_refl _) _).alloc (by simp) _⟩
  have := Blk.new (w.alloc (.cells X 33)) 33 Z
  simpa using this

theorem few_fin (w : World) (X Z : Array Value) : Blk ((w.alloc (.cells X 33)).alloc (.cells Z 33)) (w.heap.size + 1) 33 Z ∧ Below w.heap.size w ((w.alloc (.cells X 33)).alloc (.cells Z 33)) := ⟨(FwSt.start w X Z).z, (FwSt.start w X Z).below⟩
def FwPost (B : Nat) (x : MAct) (w : World) (e : Ending) (w' : World) : Prop :=
  ∃ v', e = .returned (.agg #[.int .i64 x.kind, .int .i64 x.steps, .string (st (x.body.take 600)), v']) ∧ Sv (fun b => b < B) w' v' (x.left.take 20) ∧ Below w.heap.size w w'

set_option maxHeartbeats 4000000 in
set_option maxRecDepth 100000 in
theorem few12_any (B : Nat) (x : MAct) (w : World) (hs : Sv (fun b => b < B) w x.v x.left) (hB : B ≤ w.heap.size) :
    Calls Tryd.prog 9 #[.agg #[.int .i64 x.kind, .int .i64 x.steps, .string (st x.body), x.v]] w (FwPost B x w) := by
  obtain ⟨kind, steps, body, left, v⟩ := x
  simp only at hs ⊢
  obtain ⟨A, c, rfl, hA⟩ := hs.at
  have HS := Lib.hid hs
  have S0 := Lib.hid (FwSt.start w #[.int .i64 kind, .int .i64 steps, .string (st body), .slice A left.length c] #[.int .i64 0, .int .i64 0, .string (st []), .slice none 0 0])
  clear hs
  have hcl : left.length ≤ c := by
    obtain ⟨_, A', c', hv, h3, _⟩ := HS.out
    cases hv
    exact h3
  have HT : Hid (body.length ≤ 600 → body.take 600 = body) := fun h => List.take_of_length_le h
  have HTL : Hid (left.length ≤ 20 → left.take 20 = left) := fun h => List.take_of_length_le h
  by_cases hl : 20 < left.length
  · obtain ⟨b, o, rfl, -⟩ := hA (by omega)
    clear hA
    have hc0 : ¬ c = 0 := by omega
    have h20 : (20 : Int) ≤ (c : Int) := by omega
    have HP := Lib.hid (HS.out.pre (k := 20) (by omega))
    by_cases hb : 600 < body.length
    · go_enter Tryd.func9, Tryd.ntmps9
      go_wp2_with fail
      refine bodyPost_ret (results_cell1 rfl _ _ (w.heap.size + 1) rfl (few_fin _ _ _).1 actTy) rfl ⟨_, rfl, HP.out.later ((few_fin _ _ _).2.mono hB), (few_fin _ _ _).2⟩
    · have HTT := Lib.hid (HT.out (by omega))
      go_enter Tryd.func9, Tryd.ntmps9
      go_wp2_with fail
      refine bodyPost_ret (results_cell1 rfl _ _ (w.heap.size + 1) rfl (few_fin _ _ _).1 actTy) rfl ⟨_, by simp only; rw [HTT.out], HP.out.later ((few_fin _ _ _).2.mono hB), (few_fin _ _ _).2⟩
  · have HTM := Lib.hid (HTL.out (by omega))
    clear hA
    by_cases hb : 600 < body.length
    · go_enter Tryd.func9, Tryd.ntmps9
      go_wp2_with fail
      refine bodyPost_ret (results_cell1 rfl _ _ (w.heap.size + 1) rfl (few_fin _ _ _).1 actTy) rfl ⟨_, rfl, by simp only; rw [HTM.out]; exact HS.out.later ((few_fin _ _ _).2.mono hB), (few_fin _ _ _).2⟩
    · have HTT := Lib.hid (HT.out (by omega))
      go_enter Tryd.func9, Tryd.ntmps9
      go_wp2_with fail
      refine bodyPost_ret (results_cell1 rfl _ _ (w.heap.size + 1) rfl (few_fin _ _ _).1 actTy) rfl ⟨_, by simp only; rw [HTT.out], by simp only; rw [HTM.out]; exact HS.out.later ((few_fin _ _ _).2.mono hB), (few_fin _ _ _).2⟩
end Go.Proofs.YtpmndmgfoiagnaaDoor

namespace Go.Proofs.YtpmndmgfoiagnaaDoor
open Go Go.RowKit
set_option linter.unusedVariables false

abbrev Sec := Int × List UInt8
def scs (l : List Sec) : List Value := l.flatMap fun x => [.int .i64 x.1, .string (st x.2)]
theorem scs_len (l : List Sec) : (scs l).length = l.length * 2 := by
  induction l with
  | nil => rfl
  | cons r rs ih => simp only [scs, List.flatMap_cons, List.length_append, List.length_cons, List.length_nil] at ih ⊢; omega
theorem scs_append (a b : List Sec) : scs (a ++ b) = scs a ++ scs b := by simp [scs]
theorem scs_one (l : List Sec) : ∀ u ∈ scs l, u.oneCell' = true := by
  intro u hu
  obtain ⟨r, _, hu⟩ := List.mem_flatMap.1 hu
  simp at hu
  rcases hu with rfl | rfl <;> rfl
theorem scs_at {l : List Sec} {j : Nat} (h : j < l.length) : (scs l)[j * 2]? = some (.int .i64 l[j].1) ∧ (scs l)[j * 2 + 1]? = some (.string (st l[j].2)) := by
  induction l generalizing j with
  | nil => simp at h
  | cons r rs ih =>
    rcases j with _ | j
    · simp [scs]
    · have := ih (j := j) (by simpa using h)
      simp only [scs, List.flatMap_cons] at this ⊢
      rw [show (j + 1) * 2 = j * 2 + 1 + 1 by omega]
      simpa using this
/-- The slice value v reads as the sectors l. -/
def Sc (w : World) (v : Value) (l : List Sec) : Prop := KSl 109 2 w v l.length (scs l)
theorem Sc.nil (w : World) : Sc w (.slice none 0 0) [] := KSl.nil
theorem Sc.later {w w' : World} {v : Value} {l : List Sec} (h : Sc w v l) (hb : Below w.heap.size w w') : Sc w' v l := KSl.later h hb
theorem Sc.at {w : World} {v : Value} {l : List Sec} (h : Sc w v l) : ∃ A c, v = .slice A l.length c ∧ l.length ≤ c ∧ c ≤ maxLen ∧
    (0 < l.length → ∃ b o, A = some ⟨b, o, none⟩ ∧ b < w.heap.size ∧ ∀ j (hj : j < l.length), w.cell? ⟨b, o + j * 2, none⟩ = some (.int .i64 l[j].1) ∧ w.cell? ⟨b, o + j * 2 + 1, none⟩ = some (.string (st l[j].2))) := by
  obtain ⟨_, A, c, h2, h3, h4, h5, h6⟩ := KSl.lt h
  refine ⟨A, c, h2, h3, h4, fun hn => ?_⟩
  obtain ⟨b, o, ha, hs, hc⟩ := h6 hn
  refine ⟨b, o, ha, hs, fun j hj => ⟨hc _ _ (scs_at hj).1, ?_⟩⟩
  rw [Nat.add_assoc]
  exact hc _ _ (scs_at hj).2
def lookL (l : List Sec) (a : Int) : Option (List UInt8) := (l.find? fun x => x.1 == a).map (·.2)
theorem lookL_drop {l : List Sec} {i : Nat} (h : i < l.length) (a : Int) : lookL (l.drop i) a = if l[i].1 = a then some l[i].2 else lookL (l.drop (i + 1)) a := by
  unfold lookL
  rw [List.drop_eq_getElem_cons h]
  by_cases ha : l[i].1 = a
  · rw [if_pos ha, List.find?_cons_of_pos (by simp [ha])]; rfl
  · rw [if_neg ha, List.find?_cons_of_neg (by simpa using ha)]
theorem sectorTy : StructTy Tryd.prog 109 2 := ⟨⟨_, Tryd.underlying109⟩, by kernel_rfl⟩
theorem elemSec : Elem Tryd.prog 46 109 (.agg #[.int .i64 0, .string ⟨#[]⟩]) 2 24 := Elem.mk' Tryd.underlying46 (by kernel_rfl) rfl (by omega)

set_option maxHeartbeats 1000000 in
set_option maxRecDepth 100000 in
theorem rfind_any (v0 : Value) (l : List Sec) (a : Int) (w : World) (hr : Sc w v0 l) (hl : l.length ≤ 1000000) :
    Calls Tryd.prog 31 #[v0, .int .i64 a] w fun e w' => e = .returned (.tuple #[.string (st ((lookL l a).getD [])), .bool (lookL l a).isSome]) ∧ w = w' := by
  obtain ⟨A, c, rfl, hlc, hcm, hA⟩ := hr.at
  have HA := Lib.hid hA
  clear hA hr
  go_enter Tryd.func31, Tryd.ntmps31
  go_wp2_with fail
  go_loop [6] (fun iv => ∃ i : Nat, iv = .int .i64 (i : Int) ∧ i ≤ l.length ∧ Hid (lookL l a = lookL (l.drop i) a)) (fun iv => l.length - (intOf iv).toNat)
  case atStart => exact ⟨0, rfl, by omega, rfl⟩
  case round =>
    obtain ⟨i, rfl, hi, hlk⟩ := hrel
    by_cases hil : i < l.length
    · obtain ⟨b, o, rfl, hbs, hc⟩ := HA.out (by omega)
      have c0 := (hc i hil).1
      have c1 := (hc i hil).2
      have HD := Lib.hid (hlk.out.trans (lookL_drop hil a))
      generalize l[i] = x at *
      obtain ⟨p, s⟩ := x
      simp only at c0 c1 HD
      clear hc hlk
      by_cases hpa : p = a
      · subst hpa
        have HE : Hid (lookL l p = some s) := by rw [Hid, HD.out, if_pos rfl]
        go_wp2_with fail
        go_ret2
        exact ⟨by rw [HE.out]; rfl, rfl⟩
      · have HE : Hid (lookL l a = lookL (l.drop (i + 1)) a) := by rw [Hid, HD.out, if_neg hpa]
        have hb : (p == a) = false := by simpa using hpa
        go_wp2_with fail
        go_round
        case rel => exact ⟨i + 1, by go_num, by omega, HE⟩
        case measure => simp [intOf]; omega
    · obtain rfl : i = l.length := by omega
      have HE : Hid (lookL l a = none) := by rw [Hid, hlk.out, List.drop_length]; rfl
      go_wp2_with fail
      go_ret2
      exact ⟨by rw [HE.out]; rfl, rfl⟩
end Go.Proofs.YtpmndmgfoiagnaaDoor

namespace Go.Proofs.YtpmndmgfoiagnaaDoor
open Go Go.RowKit
set_option linter.unusedVariables false

/-- A pending write of the document's, cell by cell. -/
def pnC : Pnd → Array Value
  | .wr a b => #[.int .i64 a, .bool false, .string (st b)]
  | .fr a => #[.int .i64 a, .bool true, .string ⟨#[]⟩]
def pnAt : Pnd → Int
  | .wr a _ => a
  | .fr a => a
/-- The list behind a write of which n bytes are done. -/
def rdL (l : List Sec) (p : Pnd) (n : Int) : List Sec := match p with
  | .wr a b => (l.filter fun y => y.1 != a) ++ [(a, tornB b ((lookL l a).getD []) n)]
  | .fr a => l.filter fun y => y.1 != a
theorem Sl.newsec {S : Nat → Prop} (w : World) (x : Sec) {g : Nat} (hg : g = w.heap.size) (hS : S g) :
    Sl S (w.alloc (.cells #[.int .i64 x.1, .string (st x.2)] 109)) 2 (.slice (some ⟨g, 0, none⟩) 1 1) 1 (scs [x]) := by
  subst hg
  refine ⟨by simp [scs], _, 1, rfl, by simp, by simp [maxLen], (fun h => by cases h), fun _ => ⟨_, 0, rfl, hS, fun j v hu => ?_⟩⟩
  rw [World.cell?_alloc_new, Nat.zero_add]
  simpa [scs] using hu
/-- The slice value v owns the sectors l. -/
def So (w : World) (B : Nat) (v : Value) (l : List Sec) : Prop := w.ownsRow B 109 2 v l.length (scs l)
theorem So.sc {w : World} {B : Nat} {v : Value} {l : List Sec} (h : So w B v l) : Sc w v l := KSl.of_own (by omega) h
theorem So.later {w w' : World} {B : Nat} {v : Value} {l : List Sec} (h : So w B v l) (hb : Below w.heap.size w w') : So w' B v l := by
  obtain ⟨h1, h2⟩ := h
  refine ⟨h1, ?_⟩
  rcases h2 with h2 | ⟨g, cap, cur, hv, hg, hh, r⟩
  · exact .inl h2
  · exact .inr ⟨g, cap, cur, hv, hg, (hb.block g (lt_of_block hh)).trans hh, r⟩
theorem So.made (w : World) (B : Nat) (hB : B ≤ w.heap.size) {g : Nat} (hg : g = w.heap.size) : So (w.alloc (.cells #[] 109)) B (.slice (some ⟨g, 0, none⟩) 0 0) [] := by
  subst hg
  exact World.ownsRow_made w #[] 0 hB (by simp [maxLen]) (by simp)
theorem filter_take_succ {l : List Sec} {i : Nat} (h : i < l.length) (a : Int) : (l.take (i + 1)).filter (fun y => y.1 != a) = (l.take i).filter (fun y => y.1 != a) ++ (if l[i].1 = a then [] else [l[i]]) := by
  rw [List.take_succ_eq_append_getElem h, List.filter_append]
  congr 1
  by_cases ha : l[i].1 = a
  · rw [if_pos ha, List.filter_cons_of_neg (by simp [ha])]; rfl
  · rw [if_neg ha, List.filter_cons_of_pos (by simpa using ha)]; rfl

/-- The loop of done. -/
structure DnSt (w wr : World) (p : Pnd) (sl : Value) (m : List Sec) : Prop where
  own : So wr w.heap.size sl m
  blk : Blk wr w.heap.size 98 (pnC p)
  below : Below w.heap.size w wr

theorem rdone_fin {w w3 : World} {l m : List Sec} {a : Int} {b O T : List UInt8} {n : Int} {A : Option Addr} {c : Nat} (hT : tornB b O n = T) (hM : rdL l (.wr a b) n = m ++ [(a, tornB b O n)]) (hown : w3.ownsRow w.heap.size 109 2 (.slice A (m.length + 1) c) (m.length + 1) (scs m ++ scs [(a, T)])) (hb : Below w.heap.size w w3) :
    ∃ A' c', Ending.returned (.slice A (m.length + 1) c) = .returned (.slice A' (rdL l (.wr a b) n).length c') ∧ Sc w3 (.slice A' (rdL l (.wr a b) n).length c') (rdL l (.wr a b) n) ∧ Below w.heap.size w w3 := by
  rw [hM, hT]
  have e : (m ++ [(a, T)]).length = m.length + 1 := by simp
  refine ⟨A, c, by rw [e], ?_, hb⟩
  rw [e]
  refine So.sc (B := w.heap.size) ?_
  unfold So
  rw [scs_append, e]
  exact hown

set_option maxHeartbeats 4000000 in
set_option maxRecDepth 100000 in
theorem rdone_any (v0 : Value) (l : List Sec) (p : Pnd) (n : Int) (w : World) (hr : Sc w v0 l) (hl : l.length ≤ 1000000) (hn : InI n) (hpb : match p with | .wr _ b => b.length ≤ 1099511627776 | .fr _ => True) (hlb : ((lookL l (pnAt p)).getD []).length ≤ 1099511627776) :
    Calls Tryd.prog 37 #[v0, .agg (pnC p), .int .i64 n] w fun e w' => ∃ A c, e = .returned (.slice A (rdL l p n).length c) ∧ Sc w' (.slice A (rdL l p n).length c) (rdL l p n) ∧ Below w.heap.size w w' := by
  have HR := Lib.hid hr
  obtain ⟨A, c, rfl, hlc, hcm, hA⟩ := hr.at
  have HA := Lib.hid hA
  have b0 := Blk.new w 98 (pnC p)
  have q0 := (Below.refl w.heap.size w).alloc (Nat.le_refl _) (.cells (pnC p) 98)
  have HR0 := Lib.hid (HR.out.later q0)
  have HB0 := Lib.hid b0
  have HPB := Lib.hid hpb
  have HLB := Lib.hid hlb
  clear hA hr hpb hlb
  cases p with
  | fr a =>
    unfold pnC at HB0 HR0 q0 b0 ⊢
    have c0 : (w.alloc (.cells #[.int .i64 a, .bool true, .string ⟨#[]⟩] 98)).cell? ⟨w.heap.size, 0, none⟩ = some (.int .i64 a) := b0.cell 0
    have e1 : (w.alloc (.cells #[.int .i64 a, .bool true, .string ⟨#[]⟩] 98)).heap.size = w.heap.size + 1 := by simp
    go_enter Tryd.func37, Tryd.ntmps37
    go_wp2_with fail
    refine (rfind_any _ l a _ HR0.out hl).mono ?_
    rintro e w1 ⟨rfl, rfl⟩
    have S0 : DnSt w ((w.alloc (.cells #[.int .i64 a, .bool true, .string ⟨#[]⟩] 98)).alloc (.cells #[] 109)) (.fr a) (.slice (some ⟨w.heap.size + 1, 0, none⟩) 0 0) [] :=
      ⟨So.made _ _ (by simp) (by simp), b0.alloc _, q0.alloc q0.size _⟩
    clear HR0 HB0 b0 c0
    have HLB2 : Hid (((lookL l a).getD []).length ≤ 1099511627776) := HLB.out
    obtain ⟨O, hO⟩ : ∃ O, (lookL l a).getD [] = O := ⟨_, rfl⟩
    rw [hO] at HLB2
    rw [hO]
    obtain ⟨U, hU⟩ : ∃ U, (lookL l a).isSome = U := ⟨_, rfl⟩
    rw [hU]
    have HOO := Lib.hid hO
    have hOl : O.length ≤ 1099511627776 := HLB2.out
    clear hO hU
    go_wp2_with fail
    generalize hW : (w.alloc (.cells #[.int .i64 a, .bool true, .string ⟨#[]⟩] 98)).alloc (.cells #[] 109) = W at *
    clear hW
    go_loopw [9, 10] (fun sv iv wr => ∃ (i : Nat), iv = .int .i64 (i : Int) ∧ i ≤ l.length ∧ DnSt w wr (.fr a) sv ((l.take i).filter fun y => y.1 != a)) (fun _ iv _ => l.length - (intOf iv).toNat)
    case atStart => exact ⟨0, rfl, by omega, S0⟩
    case round =>
      clear S0
      obtain ⟨i, rfl, hi, hst⟩ := hrel
      have HST := Lib.hid hst
      obtain ⟨A1, k1, c1, rfl⟩ := own_slice hst.own
      obtain rfl := own_len hst.own
      have hml : ((l.take i).filter fun y => y.1 != a).length ≤ l.length := Nat.le_trans (List.length_filter_le _ _) (by rw [List.length_take]; omega)
      have p0 : wr.cell? ⟨w.heap.size, 0, none⟩ = some (.int .i64 a) := hst.blk.cell 0
      have p1 : wr.cell? ⟨w.heap.size, 1, none⟩ = some (.bool true) := hst.blk.cell 1
      have hwl : w.heap.size < wr.heap.size := hst.blk.lt
      by_cases hil : i < l.length
      · obtain ⟨b', o, rfl, hbs, hc⟩ := HA.out (by omega)
        have d0 : wr.cell? ⟨b', o + i * 2, none⟩ = some (.int .i64 l[i].1) := (hst.below.cell (p := ⟨b', o + i * 2, none⟩) hbs).trans (hc i hil).1
        have d1 : wr.cell? ⟨b', o + i * 2 + 1, none⟩ = some (.string (st l[i].2)) := (hst.below.cell (p := ⟨b', o + i * 2 + 1, none⟩) hbs).trans (hc i hil).2
        have HFS := Lib.hid (filter_take_succ hil a)
        generalize l[i] = x at *
        obtain ⟨y, z⟩ := x
        simp only at d0 d1
        obtain ⟨m, hm⟩ : ∃ m, (l.take i).filter (fun y => y.1 != a) = m := ⟨_, rfl⟩
        rw [hm] at HFS HST hml ⊢
        have hsz := hst.below.size
        clear hc hst hm
        by_cases hya : y = a
        · have HF2 : Hid ((l.take (i + 1)).filter (fun y => y.1 != a) = m) := by rw [Hid, HFS.out, if_pos hya, List.append_nil]
          have hb : (y != a) = false := by simp [hya]
          clear HFS hya
          go_wp2_with fail
          go_quiet (fail)
          go_wp2_with fail
          go_roundw
          case rel => exact ⟨i + 1, by go_num, by omega, by rw [HF2.out]; exact ⟨HST.out.own.later (below_drewN (Below.refl _ _) _), HST.out.blk.drewN _, below_drewN HST.out.below _⟩⟩
          case measure => simp [intOf]; omega
        · have HF2 : Hid ((l.take (i + 1)).filter (fun y => y.1 != a) = m ++ [(y, z)]) := by rw [Hid, HFS.out, if_neg hya]
          have hb : (y != a) = true := by simpa using hya
          clear HFS hya
          go_wp2_with fail
          go_quiet (fail)
          have HOW : Hid (So (wr.drewN nq) w.heap.size (.slice A1 m.length c1) m) := HST.out.own
          have HBK : Hid (Blk (wr.drewN nq) w.heap.size 98 (pnC (.fr a))) := HST.out.blk
          have HBL : Hid (Below w.heap.size w (wr.drewN nq)) := below_drewN HST.out.below _
          have d0 : (wr.drewN nq).cell? ⟨b', o + i * 2, none⟩ = some (.int .i64 y) := d0
          have d1 : (wr.drewN nq).cell? ⟨b', o + i * 2 + 1, none⟩ = some (.string (st z)) := d1
          generalize wr.drewN nq = W2 at *
          have hblt : b' < W2.heap.size := World.block_lt_of_cell? W2 _ d0
          have qa : Below W2.heap.size W2 (W2.alloc (.cells #[.int .i64 y, .string (st z)] 109)) := (Below.refl _ _).alloc (Nat.le_refl _) _
          have hoc := Lib.hid (HOW.out.later qa)
          have hbk := Lib.hid (HBK.out.later qa)
          have q2 := Lib.hid (HBL.out.trans (qa.mono HBL.out.size))
          have hszz : w.heap.size ≤ (W2.alloc (.cells #[.int .i64 y, .string (st z)] 109)).heap.size := q2.out.size
          go_wp2_with (at_builtin; refine wpList_append_sl _ rfl (.tmp 34) (.tmp 39) elemSec rfl hoc.out (Sl.newsec (S := fun _ => True) _ (y, z) rfl trivial) rfl rfl (scs_one _) (by simp only [maxLen]; omega) (by omega) hszz ?_; intro A3 k3 c3 w3 hown3 hga hat3)
          go_roundw
          case rel =>
            obtain rfl := own_len hown3
            refine ⟨i + 1, by go_num, by omega, ?_⟩
            rw [HF2.out]
            refine ⟨?_, hbk.out.kept hoc.out hga (by decide), below_grown_own q2.out hoc.out hga q2.out.size⟩
            unfold So
            rw [scs_append, show (m ++ [(y, z)]).length = m.length + 1 by simp]
            exact hown3
          case measure => simp [intOf]; omega
      · obtain rfl : i = l.length := by omega
        have HTL : Hid ((l.take l.length).filter (fun y => y.1 != a) = l.filter fun y => y.1 != a) := by rw [Hid, List.take_length]
        rw [HTL.out] at HST hml ⊢
        clear hst
        go_wp2_with fail
        go_ret
        exact ⟨A1, c1, rfl, HST.out.own.sc, HST.out.below⟩
  | wr a b =>
    unfold pnC at HB0 HR0 q0 b0 ⊢
    have c0 : (w.alloc (.cells #[.int .i64 a, .bool false, .string (st b)] 98)).cell? ⟨w.heap.size, 0, none⟩ = some (.int .i64 a) := b0.cell 0
    have e1 : (w.alloc (.cells #[.int .i64 a, .bool false, .string (st b)] 98)).heap.size = w.heap.size + 1 := by simp
    go_enter Tryd.func37, Tryd.ntmps37
    go_wp2_with fail
    refine (rfind_any _ l a _ HR0.out hl).mono ?_
    rintro e w1 ⟨rfl, rfl⟩
    have S0 : DnSt w ((w.alloc (.cells #[.int .i64 a, .bool false, .string (st b)] 98)).alloc (.cells #[] 109)) (.wr a b) (.slice (some ⟨w.heap.size + 1, 0, none⟩) 0 0) [] :=
      ⟨So.made _ _ (by simp) (by simp), b0.alloc _, q0.alloc q0.size _⟩
    clear HR0 HB0 b0 c0
    have HLB2 : Hid (((lookL l a).getD []).length ≤ 1099511627776) := HLB.out
    obtain ⟨O, hO⟩ : ∃ O, (lookL l a).getD [] = O := ⟨_, rfl⟩
    rw [hO] at HLB2
    rw [hO]
    obtain ⟨U, hU⟩ : ∃ U, (lookL l a).isSome = U := ⟨_, rfl⟩
    rw [hU]
    have HOO := Lib.hid hO
    have hOl : O.length ≤ 1099511627776 := HLB2.out
    clear hO hU
    go_wp2_with fail
    generalize hW : (w.alloc (.cells #[.int .i64 a, .bool false, .string (st b)] 98)).alloc (.cells #[] 109) = W at *
    clear hW
    go_loopw [9, 10] (fun sv iv wr => ∃ (i : Nat), iv = .int .i64 (i : Int) ∧ i ≤ l.length ∧ DnSt w wr (.wr a b) sv ((l.take i).filter fun y => y.1 != a)) (fun _ iv _ => l.length - (intOf iv).toNat)
    case atStart => exact ⟨0, rfl, by omega, S0⟩
    case round =>
      clear S0
      obtain ⟨i, rfl, hi, hst⟩ := hrel
      have HST := Lib.hid hst
      obtain ⟨A1, k1, c1, rfl⟩ := own_slice hst.own
      obtain rfl := own_len hst.own
      have hml : ((l.take i).filter fun y => y.1 != a).length ≤ l.length := Nat.le_trans (List.length_filter_le _ _) (by rw [List.length_take]; omega)
      have p0 : wr.cell? ⟨w.heap.size, 0, none⟩ = some (.int .i64 a) := hst.blk.cell 0
      have p1 : wr.cell? ⟨w.heap.size, 1, none⟩ = some (.bool false) := hst.blk.cell 1
      have p2 : wr.cell? ⟨w.heap.size, 2, none⟩ = some (.string (st b)) := hst.blk.cell 2
      have hwl : w.heap.size < wr.heap.size := hst.blk.lt
      by_cases hil : i < l.length
      · obtain ⟨b', o, rfl, hbs, hc⟩ := HA.out (by omega)
        have d0 : wr.cell? ⟨b', o + i * 2, none⟩ = some (.int .i64 l[i].1) := (hst.below.cell (p := ⟨b', o + i * 2, none⟩) hbs).trans (hc i hil).1
        have d1 : wr.cell? ⟨b', o + i * 2 + 1, none⟩ = some (.string (st l[i].2)) := (hst.below.cell (p := ⟨b', o + i * 2 + 1, none⟩) hbs).trans (hc i hil).2
        have HFS := Lib.hid (filter_take_succ hil a)
        generalize l[i] = x at *
        obtain ⟨y, z⟩ := x
        simp only at d0 d1
        obtain ⟨m, hm⟩ : ∃ m, (l.take i).filter (fun y => y.1 != a) = m := ⟨_, rfl⟩
        rw [hm] at HFS HST hml ⊢
        have hsz := hst.below.size
        clear hc hst hm
        by_cases hya : y = a
        · have HF2 : Hid ((l.take (i + 1)).filter (fun y => y.1 != a) = m) := by rw [Hid, HFS.out, if_pos hya, List.append_nil]
          have hb : (y != a) = false := by simp [hya]
          clear HFS hya
          go_wp2_with fail
          go_quiet (fail)
          go_wp2_with fail
          go_roundw
          case rel => exact ⟨i + 1, by go_num, by omega, by rw [HF2.out]; exact ⟨HST.out.own.later (below_drewN (Below.refl _ _) _), HST.out.blk.drewN _, below_drewN HST.out.below _⟩⟩
          case measure => simp [intOf]; omega
        · have HF2 : Hid ((l.take (i + 1)).filter (fun y => y.1 != a) = m ++ [(y, z)]) := by rw [Hid, HFS.out, if_neg hya]
          have hb : (y != a) = true := by simpa using hya
          clear HFS hya
          go_wp2_with fail
          go_quiet (fail)
          have HOW : Hid (So (wr.drewN nq) w.heap.size (.slice A1 m.length c1) m) := HST.out.own
          have HBK : Hid (Blk (wr.drewN nq) w.heap.size 98 (pnC (.wr a b))) := HST.out.blk
          have HBL : Hid (Below w.heap.size w (wr.drewN nq)) := below_drewN HST.out.below _
          have d0 : (wr.drewN nq).cell? ⟨b', o + i * 2, none⟩ = some (.int .i64 y) := d0
          have d1 : (wr.drewN nq).cell? ⟨b', o + i * 2 + 1, none⟩ = some (.string (st z)) := d1
          generalize wr.drewN nq = W2 at *
          have hblt : b' < W2.heap.size := World.block_lt_of_cell? W2 _ d0
          have qa : Below W2.heap.size W2 (W2.alloc (.cells #[.int .i64 y, .string (st z)] 109)) := (Below.refl _ _).alloc (Nat.le_refl _) _
          have hoc := Lib.hid (HOW.out.later qa)
          have hbk := Lib.hid (HBK.out.later qa)
          have q2 := Lib.hid (HBL.out.trans (qa.mono HBL.out.size))
          have hszz : w.heap.size ≤ (W2.alloc (.cells #[.int .i64 y, .string (st z)] 109)).heap.size := q2.out.size
          go_wp2_with (at_builtin; refine wpList_append_sl _ rfl (.tmp 34) (.tmp 39) elemSec rfl hoc.out (Sl.newsec (S := fun _ => True) _ (y, z) rfl trivial) rfl rfl (scs_one _) (by simp only [maxLen]; omega) (by omega) hszz ?_; intro A3 k3 c3 w3 hown3 hga hat3)
          go_roundw
          case rel =>
            obtain rfl := own_len hown3
            refine ⟨i + 1, by go_num, by omega, ?_⟩
            rw [HF2.out]
            refine ⟨?_, hbk.out.kept hoc.out hga (by decide), below_grown_own q2.out hoc.out hga q2.out.size⟩
            unfold So
            rw [scs_append, show (m ++ [(y, z)]).length = m.length + 1 by simp]
            exact hown3
          case measure => simp [intOf]; omega
      · obtain rfl : i = l.length := by omega
        have HTL : Hid ((l.take l.length).filter (fun y => y.1 != a) = l.filter fun y => y.1 != a) := by rw [Hid, List.take_length]
        rw [HTL.out] at HST hml ⊢
        clear hst
        have hml2 : (l.filter fun y => y.1 != a).length ≤ 1000000 := by omega
        have HM : Hid (rdL l (.wr a b) n = (l.filter fun y => y.1 != a) ++ [(a, tornB b O n)]) := by rw [Hid, ← HOO.out]; rfl
        generalize (l.filter fun y => y.1 != a) = m at *
        have hbl : b.length ≤ 1099511627776 := HPB.out
        have hcase : (n < 0 ∧ b = []) ∨ (n < 0 ∧ b ≠ [] ∧ O = []) ∨ (n < 0 ∧ b ≠ [] ∧ O ≠ []) ∨ ∃ N : Nat, n = (N : Int) ∧ (b.length ≤ N ∨ N < b.length ∧ O.length ≤ N ∨ N < b.length ∧ N < O.length) := by
          by_cases h0 : n < 0
          · by_cases h1 : b = []
            · exact .inl ⟨h0, h1⟩
            · by_cases h2 : O = []
              · exact .inr (.inl ⟨h0, h1, h2⟩)
              · exact .inr (.inr (.inl ⟨h0, h1, h2⟩))
          · exact .inr (.inr (.inr ⟨n.toNat, by omega, by omega⟩))
        rcases hcase with ⟨h0, rfl⟩ | ⟨h0, h1, rfl⟩ | ⟨h0, h1, h2⟩ | ⟨N, rfl, h1 | ⟨h1, h2⟩ | ⟨h1, h2⟩⟩
        · have hz : n.toNat = 0 := by omega
          have HT : Hid (tornB [] O n = []) := by unfold tornB; rw [Hid, hz]; simp
          clear hz
          have qa := (Below.refl wr.heap.size wr).alloc (Nat.le_refl _) (.cells #[.int .i64 a, .string (st ([]))] 109)
          have hoc := Lib.hid (HST.out.own.later qa)
          have q2 := Lib.hid (HST.out.below.trans (qa.mono HST.out.below.size))
          have hszz : w.heap.size ≤ (wr.alloc (.cells #[.int .i64 a, .string (st ([]))] 109)).heap.size := q2.out.size
          go_wp2_with (at_builtin; refine wpList_append_sl _ rfl (.tmp 64) (.tmp 69) elemSec rfl hoc.out (Sl.newsec (S := fun _ => True) _ (a, []) rfl trivial) rfl rfl (scs_one _) (by simp only [maxLen]; omega) (by omega) hszz ?_; intro A3 k3 c3 w3 hown3 hga hat3)
          go_ret
          obtain rfl := own_len hown3
          exact rdone_fin HT.out HM.out hown3 (below_grown_own q2.out hoc.out hga q2.out.size)
        · have hz : n.toNat = 0 := by omega
          have hbp : 0 < b.length := List.length_pos_iff.2 h1
          have HT : Hid (tornB b [] n = []) := by unfold tornB; rw [Hid, hz, if_pos hbp]; simp
          have i1 : (0 : Int) < (b.length : Int) := by omega
          have i4 : (0 : Int) ≤ (b.length : Int) := by omega
          clear hz
          have qa := (Below.refl wr.heap.size wr).alloc (Nat.le_refl _) (.cells #[.int .i64 a, .string (st ([]))] 109)
          have hoc := Lib.hid (HST.out.own.later qa)
          have q2 := Lib.hid (HST.out.below.trans (qa.mono HST.out.below.size))
          have hszz : w.heap.size ≤ (wr.alloc (.cells #[.int .i64 a, .string (st ([]))] 109)).heap.size := q2.out.size
          go_wp2_with (at_builtin; refine wpList_append_sl _ rfl (.tmp 64) (.tmp 69) elemSec rfl hoc.out (Sl.newsec (S := fun _ => True) _ (a, []) rfl trivial) rfl rfl (scs_one _) (by simp only [maxLen]; omega) (by omega) hszz ?_; intro A3 k3 c3 w3 hown3 hga hat3)
          go_ret
          obtain rfl := own_len hown3
          exact rdone_fin HT.out HM.out hown3 (below_grown_own q2.out hoc.out hga q2.out.size)
        · have hz : n.toNat = 0 := by omega
          have hbp : 0 < b.length := List.length_pos_iff.2 h1
          have hop : 0 < O.length := List.length_pos_iff.2 h2
          have HT : Hid (tornB b O n = O) := by unfold tornB; rw [Hid, hz, if_pos hbp]; simp
          have i1 : (0 : Int) < (b.length : Int) := by omega
          have i4 : (0 : Int) ≤ (b.length : Int) := by omega
          have i2 : (0 : Int) < (O.length : Int) := by omega
          have i5 : (0 : Int) ≤ (O.length : Int) := by omega
          have hdt : O.take O.length = O := List.take_length
          have g1 : ¬ 9223372036854775807 < O.length := by omega
          clear hz
          have qa := (Below.refl wr.heap.size wr).alloc (Nat.le_refl _) (.cells #[.int .i64 a, .string (st (O))] 109)
          have hoc := Lib.hid (HST.out.own.later qa)
          have q2 := Lib.hid (HST.out.below.trans (qa.mono HST.out.below.size))
          have hszz : w.heap.size ≤ (wr.alloc (.cells #[.int .i64 a, .string (st (O))] 109)).heap.size := q2.out.size
          go_wp2_with (at_builtin; refine wpList_append_sl _ rfl (.tmp 64) (.tmp 69) elemSec rfl hoc.out (Sl.newsec (S := fun _ => True) _ (a, O) rfl trivial) rfl rfl (scs_one _) (by simp only [maxLen]; omega) (by omega) hszz ?_; intro A3 k3 c3 w3 hown3 hga hat3)
          go_ret
          obtain rfl := own_len hown3
          exact rdone_fin HT.out HM.out hown3 (below_grown_own q2.out hoc.out hga q2.out.size)
        · have HT : Hid (tornB b O (N : Int) = b) := by unfold tornB; rw [Hid, Int.toNat_natCast, if_neg (by omega)]
          have i1 : ¬ (N : Int) < (b.length : Int) := by omega
          have i0 : ¬ (N : Int) < 0 := by omega
          have qa := (Below.refl wr.heap.size wr).alloc (Nat.le_refl _) (.cells #[.int .i64 a, .string (st (b))] 109)
          have hoc := Lib.hid (HST.out.own.later qa)
          have q2 := Lib.hid (HST.out.below.trans (qa.mono HST.out.below.size))
          have hszz : w.heap.size ≤ (wr.alloc (.cells #[.int .i64 a, .string (st (b))] 109)).heap.size := q2.out.size
          go_wp2_with (at_builtin; refine wpList_append_sl _ rfl (.tmp 64) (.tmp 69) elemSec rfl hoc.out (Sl.newsec (S := fun _ => True) _ (a, b) rfl trivial) rfl rfl (scs_one _) (by simp only [maxLen]; omega) (by omega) hszz ?_; intro A3 k3 c3 w3 hown3 hga hat3)
          go_ret
          obtain rfl := own_len hown3
          exact rdone_fin HT.out HM.out hown3 (below_grown_own q2.out hoc.out hga q2.out.size)
        · have HT : Hid (tornB b O (N : Int) = b.take N) := by unfold tornB; rw [Hid, Int.toNat_natCast, if_pos h1, List.drop_eq_nil_of_le (by omega), List.append_nil]
          have i1 : (N : Int) < (b.length : Int) := by omega
          have i0 : ¬ (N : Int) < 0 := by omega
          have i2 : ¬ (N : Int) < (O.length : Int) := by omega
          have i3 : (0 : Int) ≤ (N : Int) := by omega
          have i4 : (N : Int) ≤ (b.length : Int) := by omega
          have qa := (Below.refl wr.heap.size wr).alloc (Nat.le_refl _) (.cells #[.int .i64 a, .string (st (b.take N))] 109)
          have hoc := Lib.hid (HST.out.own.later qa)
          have q2 := Lib.hid (HST.out.below.trans (qa.mono HST.out.below.size))
          have hszz : w.heap.size ≤ (wr.alloc (.cells #[.int .i64 a, .string (st (b.take N))] 109)).heap.size := q2.out.size
          go_wp2_with (at_builtin; refine wpList_append_sl _ rfl (.tmp 64) (.tmp 69) elemSec rfl hoc.out (Sl.newsec (S := fun _ => True) _ (a, b.take N) rfl trivial) rfl rfl (scs_one _) (by simp only [maxLen]; omega) (by omega) hszz ?_; intro A3 k3 c3 w3 hown3 hga hat3)
          go_ret
          obtain rfl := own_len hown3
          exact rdone_fin HT.out HM.out hown3 (below_grown_own q2.out hoc.out hga q2.out.size)
        · have HT : Hid (tornB b O (N : Int) = b.take N ++ O.drop N) := by unfold tornB; rw [Hid, Int.toNat_natCast, if_pos h1]
          have i1 : (N : Int) < (b.length : Int) := by omega
          have i0 : ¬ (N : Int) < 0 := by omega
          have i2 : (N : Int) < (O.length : Int) := by omega
          have i3 : (0 : Int) ≤ (N : Int) := by omega
          have i4 : (N : Int) ≤ (b.length : Int) := by omega
          have i5 : (N : Int) ≤ (O.length : Int) := by omega
          have hdt : (O.drop N).take (O.length - N) = O.drop N := List.take_of_length_le (by simp)
          have g1 : ¬ 9223372036854775807 < (b.take N).length + (O.drop N).length := by rw [List.length_take, List.length_drop]; omega
          have g2 : ¬ 9223372036854775807 < min N b.length + (O.length - N) := by omega
          have qa := (Below.refl wr.heap.size wr).alloc (Nat.le_refl _) (.cells #[.int .i64 a, .string (st (b.take N ++ O.drop N))] 109)
          have hoc := Lib.hid (HST.out.own.later qa)
          have q2 := Lib.hid (HST.out.below.trans (qa.mono HST.out.below.size))
          have hszz : w.heap.size ≤ (wr.alloc (.cells #[.int .i64 a, .string (st (b.take N ++ O.drop N))] 109)).heap.size := q2.out.size
          go_wp2_with (at_builtin; refine wpList_append_sl _ rfl (.tmp 64) (.tmp 69) elemSec rfl hoc.out (Sl.newsec (S := fun _ => True) _ (a, b.take N ++ O.drop N) rfl trivial) rfl rfl (scs_one _) (by simp only [maxLen]; omega) (by omega) hszz ?_; intro A3 k3 c3 w3 hown3 hga hat3)
          go_ret
          obtain rfl := own_len hown3
          exact rdone_fin HT.out HM.out hown3 (below_grown_own q2.out hoc.out hga q2.out.size)
end Go.Proofs.YtpmndmgfoiagnaaDoor

namespace Go.Proofs.YtpmndmgfoiagnaaDoor
open Go
set_option linter.unusedVariables false

/-- The records that stand one behind the other from a number on, and how many bytes they have. -/
def recScan : Nat → List UInt8 → Nat → List (Nat × List UInt8) × Nat
  | 0, _, _ => ([], 0)
  | k + 1, l, f => match recGet l with
    | none => ([], 0)
    | some (r, n) => if r.1 = f % U64 then (r :: (recScan k (l.drop n) (f + 1)).1, n + (recScan k (l.drop n) (f + 1)).2) else ([], 0)
theorem recGet_len {l : List UInt8} {r : Nat × List UInt8} {n : Nat} (h : recGet l = some (r, n)) : 8 ≤ n ∧ n ≤ l.length := by
  unfold recGet at h
  split at h
  · cases h
  · rename_i hc
    split at h
    · cases h
    · rename_i f hf
      split at h
      · injection h with h
        injection h with _ h
        unfold openB at hf
        split at hf
        · cases hf
        · rename_i h4
          rw [List.length_take] at h4
          rw [List.length_drop] at hc h4
          omega
      · cases h
theorem recGet_nil : recGet [] = none := by unfold recGet; rw [if_pos (.inl (by simp))]
/-- No more rounds than bytes. -/
theorem recScan_fuel : ∀ (k j : Nat) (l : List UInt8) (f : Nat), l.length ≤ k → l.length ≤ j → recScan k l f = recScan j l f
  | 0, 0, _, _, _, _ => rfl
  | 0, j + 1, l, f, h, _ => by
    obtain rfl : l = [] := List.eq_nil_of_length_eq_zero (by omega)
    rw [recScan, recScan, recGet_nil]
  | k + 1, 0, l, f, _, h => by
    obtain rfl : l = [] := List.eq_nil_of_length_eq_zero (by omega)
    rw [recScan, recScan, recGet_nil]
  | k + 1, j + 1, l, f, h1, h2 => by
    rw [recScan, recScan]
    cases hg : recGet l with
    | none => rfl
    | some x =>
      obtain ⟨r, n⟩ := x
      have hn := recGet_len hg
      simp only
      rw [recScan_fuel k j (l.drop n) (f + 1) (by rw [List.length_drop]; omega) (by rw [List.length_drop]; omega)]

/-- Bodies numbered from f on: their records' bytes. -/
def allB : Nat → List (List UInt8) → List UInt8
  | _, [] => []
  | f, t :: ts => recB (f % U64) t ++ allB (f + 1) ts
def numbered : Nat → List (List UInt8) → List (Nat × List UInt8)
  | _, [] => []
  | f, t :: ts => (f % U64, t) :: numbered (f + 1) ts
/-- How many are whole within n bytes, and how many bytes these have. -/
def wholeB : Nat → List (List UInt8) → Nat → Nat × Nat
  | _, [], _ => (0, 0)
  | f, t :: ts, n => if (recB (f % U64) t).length ≤ n then ((wholeB (f + 1) ts (n - (recB (f % U64) t).length)).1 + 1, (recB (f % U64) t).length + (wholeB (f + 1) ts (n - (recB (f % U64) t).length)).2) else (0, 0)
theorem recScan_cut : ∀ (ts : List (List UInt8)) (f n k : Nat), (∀ t ∈ ts, t.length ≤ 32768) → n ≤ (allB f ts).length → n ≤ k →
    recScan k ((allB f ts).take n) f = ((numbered f ts).take (wholeB f ts n).1, (wholeB f ts n).2)
  | [], f, n, k, _, hn, hk => by
    match k with
    | 0 => simp [recScan, numbered, wholeB]
    | k + 1 => simp [recScan, allB, numbered, wholeB, recGet_nil]
  | t :: ts, f, n, k, ht, hn, hk => by
    have hq : f % U64 < U64 := Nat.mod_lt _ (by unfold U64; decide)
    have htl : t.length ≤ 32768 := ht t (by simp)
    have hpos : 8 ≤ (recB (f % U64) t).length := by rw [recB_len]; omega
    rw [allB, wholeB]
    by_cases hc : (recB (f % U64) t).length ≤ n
    · rw [if_pos hc]
      obtain ⟨k, rfl⟩ : ∃ k', k = k' + 1 := ⟨k - 1, by omega⟩
      have e : (recB (f % U64) t ++ allB (f + 1) ts).take n = recB (f % U64) t ++ (allB (f + 1) ts).take (n - (recB (f % U64) t).length) := by
        rw [List.take_append, List.take_of_length_le hc]
      rw [e, recScan, recGet_put hq htl]
      simp only
      rw [if_pos trivial, List.drop_left]
      have ih := recScan_cut ts (f + 1) (n - (recB (f % U64) t).length) k (fun x hx => ht x (by simp [hx])) (by rw [allB, List.length_append] at hn; omega) (by omega)
      rw [ih, numbered, List.take_succ_cons]
    · rw [if_neg hc]
      have e : (recB (f % U64) t ++ allB (f + 1) ts).take n = (recB (f % U64) t).take n := by
        rw [List.take_append_of_le_length (by omega)]
      rw [e]
      match k with
      | 0 => simp [recScan]
      | k + 1 =>
        rw [recScan, recGet_cut hq htl (by omega)]
        simp
end Go.Proofs.YtpmndmgfoiagnaaDoor

namespace Go.Proofs.YtpmndmgfoiagnaaDoor
open Go Go.RowKit
set_option linter.unusedVariables false

/-- The cells of records. -/
def rcs (rs : List (Nat × List UInt8)) : List Value := rs.flatMap fun r => [.int .u64 (r.1 : Int), .string (st r.2)]
theorem rcs_len (rs : List (Nat × List UInt8)) : (rcs rs).length = rs.length * 2 := by
  induction rs with
  | nil => rfl
  | cons r rs ih => simp only [rcs, List.flatMap_cons, List.length_append, List.length_cons, List.length_nil] at ih ⊢; omega
theorem rcs_append (a b : List (Nat × List UInt8)) : rcs (a ++ b) = rcs a ++ rcs b := by simp [rcs]
theorem rcs_one (rs : List (Nat × List UInt8)) : ∀ u ∈ rcs rs, u.oneCell' = true := by
  intro u hu
  obtain ⟨r, _, hu⟩ := List.mem_flatMap.1 hu
  simp at hu
  rcases hu with rfl | rfl <;> rfl
/-- The slice value v owns the records rs, in a block from B on. -/
def Ro (w : World) (B : Nat) (v : Value) (rs : List (Nat × List UInt8)) : Prop := w.ownsRow B 72 2 v rs.length (rcs rs)

/-- append as one step of a region that draws: w0 is the world without the draws. -/
theorem step_append_sl {P : Program} {w : World} {ops : Array Oper} {o : Oper} {a : Act} {K : Act → World → Prop} {Q : Exit → Act → World → Prop} {F : Prop} (w0 : World) (hd : Drawn w0 w) (hgd : o.guard = none) (s x : Operand) {t e : TypeId} {z : Value} {size bytes : Nat}
    (E : Elem P t e z size bytes) (ho : o.op = .call { callee := .builtin .append, args := #[s, x], argTypes := #[t, t] })
    {base : Nat} {v : Value} {n : Nat} {xs : List Value} (hown : w0.ownsRow base e size v n xs)
    {S : Nat → Prop} {u : Value} {m : Nat} {news : List Value} (hr : Sl S w0 size u m news) (hs : a.eval s = v) (hx : a.eval x = u) (h1 : ∀ y ∈ news, y.oneCell' = true)
    (hlen : n + m ≤ maxLen) (hbytes : (n + m) * bytes ≤ 140737488355328) (hbase : base ≤ w0.heap.size)
    (h : ∀ A k c w', w'.ownsRow base e size (.slice A k c) (n + m) (xs ++ news) → w0.grownBy w' v.ownBlock → K (a.put o.dst (.slice A k c)) w') :
    if Region.wanted o (yielded ops a.tmps) = true then Oper.wp P o a w K Q else F := by
  have hw : Region.wanted o (yielded ops a.tmps) = true := by simp [Region.wanted, hgd]
  rw [if_pos hw]
  obtain ⟨d, rfl⟩ := hd
  obtain ⟨v', w', hrun, h2, h3, h4⟩ := run_append_sl (P := P) (w0.drewN d) E o.type hown (Sl.drewN hr d) h1 hlen hbytes hbase
  obtain ⟨A, k, c, rfl⟩ := own_slice h2
  unfold Oper.wp execOp
  simp only [ho, resolve, invoke, builtin, Sem.run_bind, Sem.run_pure, Result.andThen_ok, List.map_toArray, List.map_cons, List.map_nil, hs, hx, hrun]
  exact h A k c w' h2 ⟨h3.os, h3.tape, h3.output, h3.size, h3.block⟩

/-- A new block of one record reads as that record. -/
theorem Sl.newrec {S : Nat → Prop} (w : World) (r : Nat × List UInt8) {g : Nat} (hg : g = w.heap.size) (hS : S g) :
    Sl S (w.alloc (.cells #[.int .u64 (r.1 : Int), .string (st r.2)] 72)) 2 (.slice (some ⟨g, 0, none⟩) 1 1) 1 (rcs [r]) := by
  subst hg
  refine ⟨by simp [rcs], _, 1, rfl, by simp, by simp [maxLen], (fun h => by cases h), fun _ => ⟨_, 0, rfl, hS, fun j v hu => ?_⟩⟩
  rw [World.cell?_alloc_new]
  rw [Nat.zero_add]
  simpa [rcs] using hu

/-- Two blocks of other types are written. -/
theorem ro_two {w : World} {B : Nat} {v : Value} {rs : List (Nat × List UInt8)} {r : Nat × List UInt8} {e : TypeId} {t u : TypeId} {b b' : Nat} {cs cs' : Array Value} (h : w.ownsRow B e 2 v (rs.length + 1) (rcs rs ++ rcs [r])) (hb : Blk w b t cs) (hb' : Blk w b' u cs') (h1 : e ≠ t) (h2 : e ≠ u) (hne : b ≠ b') (x y : Value) :
    ((w.setCell ⟨b, 0, none⟩ x).setCell ⟨b', 0, none⟩ y).ownsRow B e 2 v (rs ++ [r]).length (rcs (rs ++ [r])) := by
  rw [rcs_append, List.length_append]
  exact own_set (own_set h hb h1 0 x) (hb'.far (p := ⟨b, 0, none⟩) hne.symm x) h2 0 y

end Go.Proofs.YtpmndmgfoiagnaaDoor

namespace Go.Proofs.YtpmndmgfoiagnaaDoor
open Go Go.RowKit
set_option linter.unusedVariables false

def pncs (l : List Pnd) : List Value := l.flatMap fun p => (pnC p).toList
theorem pnC_len (p : Pnd) : (pnC p).toList.length = 3 := by cases p <;> rfl
theorem pncs_len (l : List Pnd) : (pncs l).length = l.length * 3 := by
  induction l with
  | nil => rfl
  | cons r rs ih => simp only [pncs, List.flatMap_cons, List.length_append, pnC_len, List.length_cons] at ih ⊢; omega
theorem pncs_append (a b : List Pnd) : pncs (a ++ b) = pncs a ++ pncs b := by simp [pncs]
theorem pncs_one (l : List Pnd) : ∀ u ∈ pncs l, u.oneCell' = true := by
  intro u hu
  obtain ⟨r, _, hu⟩ := List.mem_flatMap.1 hu
  cases r <;> simp [pnC] at hu <;> rcases hu with rfl | rfl | rfl <;> rfl
theorem pncs_at {l : List Pnd} {j : Nat} (h : j < l.length) {k : Nat} (hk : k < 3) : (pncs l)[j * 3 + k]? = (pnC l[j])[k]? := by
  induction l generalizing j with
  | nil => simp at h
  | cons r rs ih =>
    rcases j with _ | j
    · simp only [pncs, List.flatMap_cons, Nat.zero_mul, Nat.zero_add, List.getElem_cons_zero]
      rw [List.getElem?_append_left (by rw [pnC_len]; omega), Array.getElem?_toList]
    · have := ih (j := j) (by simpa using h)
      simp only [pncs, List.flatMap_cons, List.getElem_cons_succ] at this ⊢
      rw [List.getElem?_append_right (by rw [pnC_len]; omega), pnC_len, ← this]
      congr 1
      omega
/-- The slice value v reads as the pending writes l. -/
def Pc (w : World) (v : Value) (l : List Pnd) : Prop := KSl 98 3 w v l.length (pncs l)
theorem Pc.nil (w : World) : Pc w (.slice none 0 0) [] := KSl.nil
theorem Pc.later {w w' : World} {v : Value} {l : List Pnd} (h : Pc w v l) (hb : Below w.heap.size w w') : Pc w' v l := KSl.later h hb
theorem Pc.at {w : World} {v : Value} {l : List Pnd} (h : Pc w v l) : ∃ A c, v = .slice A l.length c ∧ l.length ≤ c ∧ c ≤ maxLen ∧
    (0 < l.length → ∃ b o, A = some ⟨b, o, none⟩ ∧ b < w.heap.size ∧ ∀ j (hj : j < l.length) k (hk : k < 3) x, (pnC l[j])[k]? = some x → w.cell? ⟨b, o + j * 3 + k, none⟩ = some x) := by
  obtain ⟨_, A, c, h2, h3, h4, h5, h6⟩ := KSl.lt h
  refine ⟨A, c, h2, h3, h4, fun hn => ?_⟩
  obtain ⟨b, o, ha, hs, hc⟩ := h6 hn
  refine ⟨b, o, ha, hs, fun j hj k hk x hx => ?_⟩
  rw [Nat.add_assoc]
  exact hc _ _ ((pncs_at hj hk).trans hx)
theorem pendingTy : StructTy Tryd.prog 98 3 := ⟨⟨_, Tryd.underlying98⟩, by kernel_rfl⟩
theorem elemPnd : Elem Tryd.prog 47 98 (.agg #[.int .i64 0, .bool false, .string ⟨#[]⟩]) 3 32 := Elem.mk' Tryd.underlying47 (by kernel_rfl) rfl (by omega)
theorem Sl.newpnd {S : Nat → Prop} (w : World) (p : Pnd) {g : Nat} (hg : g = w.heap.size) (hS : S g) :
    Sl S (w.alloc (.cells (pnC p) 98)) 3 (.slice (some ⟨g, 0, none⟩) 1 1) 1 (pncs [p]) := by
  subst hg
  refine ⟨by rw [pncs_len]; rfl, _, 1, rfl, by simp, by simp [maxLen], (fun h => by cases h), fun _ => ⟨_, 0, rfl, hS, fun j v hu => ?_⟩⟩
  rw [World.cell?_alloc_new, Nat.zero_add]
  simpa [pncs] using hu
def Po (w : World) (B : Nat) (v : Value) (l : List Pnd) : Prop := w.ownsRow B 98 3 v l.length (pncs l)
theorem Po.pc {w : World} {B : Nat} {v : Value} {l : List Pnd} (h : Po w B v l) : Pc w v l := KSl.of_own (by omega) h
theorem Po.made (w : World) (B : Nat) (hB : B ≤ w.heap.size) {g : Nat} (hg : g = w.heap.size) : Po (w.alloc (.cells #[] 98)) B (.slice (some ⟨g, 0, none⟩) 0 0) [] := by
  subst hg
  exact World.ownsRow_made w #[] 0 hB (by simp [maxLen]) (by simp)

/-- A disk of the document's. -/
structure RDk where
  size : Int
  limit : Int
  view : List Sec
  ground : List Sec
  pend : List Pnd
/-- The value v is the document's disk R. -/
def Rk (w : World) (v : Value) (R : RDk) : Prop := ∃ v1 v2 v3, v = .agg #[.int .i64 R.size, .int .i64 R.limit, v1, v2, v3] ∧ Sc w v1 R.view ∧ Sc w v2 R.ground ∧ Pc w v3 R.pend
theorem Rk.later {w w' : World} {v : Value} {R : RDk} (h : Rk w v R) (hb : Below w.heap.size w w') : Rk w' v R := by
  obtain ⟨v1, v2, v3, rfl, h1, h2, h3⟩ := h
  exact ⟨v1, v2, v3, rfl, h1.later hb, h2.later hb, h3.later hb⟩
def Pnd.n : Pnd → Int
  | .wr _ b => b.length
  | .fr _ => 0
/-- The disk behind a write. -/
def RDk.put (R : RDk) (p : Pnd) : RDk := { R with pend := R.pend ++ [p], view := rdL R.view p p.n }
end Go.Proofs.YtpmndmgfoiagnaaDoor

namespace Go.Proofs.YtpmndmgfoiagnaaDoor
open Go Go.RowKit
set_option linter.unusedVariables false

theorem pnC_eq (p : Pnd) : ∃ a f b, pnC p = #[.int .i64 a, .bool f, .string (st b)] ∧ (b.length : Int) = p.n ∧ (∀ a' b', p = .wr a' b' → b = b') := by
  cases p with
  | wr a b => exact ⟨a, false, b, rfl, rfl, fun a' b' h => by cases h; rfl⟩
  | fr a => exact ⟨a, true, [], rfl, rfl, fun a' b' h => by cases h⟩

/-- put's three blocks: the disk, the write, the result. -/
structure PuSt (w : World) (D pc Z : Array Value) (wr : World) : Prop where
  d : Blk wr w.heap.size 49 D
  p : Blk wr (w.heap.size + 1) 98 pc
  r : Blk wr (w.heap.size + 1 + 1) 49 Z
  below : Below w.heap.size w wr
  size : w.heap.size + 1 + 1 + 1 ≤ wr.heap.size
section
variable {w wr w' : World} {D pc Z : Array Value}
theorem PuSt.alloc (h : PuSt w D pc Z wr) (o : Obj) : PuSt w D pc Z (wr.alloc o) := ⟨h.d.alloc o, h.p.alloc o, h.r.alloc o, h.below.alloc h.below.size o, by have := h.size; simp; omega⟩
theorem PuSt.to (h : PuSt w D pc Z wr) (hb : Below (w.heap.size + 1 + 1 + 1) wr w') : PuSt w D pc Z w' :=
  ⟨h.d.below hb (by omega), h.p.below hb (by omega), h.r.below hb (by omega), h.below.trans (hb.mono (by omega)), Nat.le_trans h.size hb.size⟩
theorem PuSt.start (w : World) (D pc Z : Array Value) : PuSt w D pc Z (((w.alloc (.cells D 49)).alloc (.cells pc 98)).alloc (.cells Z 49)) :=
  ⟨((Blk.new w _ _).alloc _).alloc _, by have := (Blk.new (w.alloc (.cells D 49)) 98 pc).alloc (.cells Z 49); simpa using this,
   by have := Blk.new ((w.alloc (.cells D 49)).alloc (.cells pc 98)) 49 Z; simpa using this,
   (((Below.refl _ _).alloc (Nat.le_refl _) _).alloc (by simp) _).alloc (by simp; omega) _, by simp⟩
/-- Behind an append to a slice that lies beyond. -/
theorem PuSt.app (h : PuSt w D pc Z wr) {e : TypeId} {size n : Nat} {v : Value} {xs : List Value} (hown : wr.ownsRow (w.heap.size + 1 + 1 + 1) e size v n xs) (hg : wr.grownBy w' v.ownBlock) : PuSt w D pc Z w' :=
  h.to ((Below.refl _ _).grown hg h.size fun k hk => (hown.lt k hk).1)
theorem PuSt.putD (h : PuSt w D pc Z wr) (i : Nat) (u : Value) : PuSt w (D.setIfInBounds i u) pc Z (wr.setCell ⟨w.heap.size, i, none⟩ u) :=
  ⟨h.d.put i u, h.p.far (by simp) _, h.r.far (by simp; omega) _, h.below.setCell (Nat.le_refl _) _, by simpa using h.size⟩
end
theorem Blk.put5 {w : World} {g : Nat} {t : TypeId} {a b c d e : Value} (h : Blk w g t #[a, b, c, d, e]) (x y z u v : Value) :
    Blk (((((w.setCell ⟨g, 0, none⟩ x).setCell ⟨g, 1, none⟩ y).setCell ⟨g, 2, none⟩ z).setCell ⟨g, 3, none⟩ u).setCell ⟨g, 4, none⟩ v) g t #[x, y, z, u, v] := ((((h.put 0 x).put 1 y).put 2 z).put 3 u).put 4 v
theorem below_put5 {B : Nat} {w0 w : World} {g : Nat} (h : Below B w0 w) (hg : B ≤ g) (x y z u v : Value) : Below B w0 (((((w.setCell ⟨g, 0, none⟩ x).setCell ⟨g, 1, none⟩ y).setCell ⟨g, 2, none⟩ z).setCell ⟨g, 3, none⟩ u).setCell ⟨g, 4, none⟩ v) :=
  ((((h.setCell hg _).setCell hg _).setCell hg _).setCell hg _).setCell hg _
/-- Where only blocks of another kind turned: five cells are put. -/
theorem KSl.put5 {e t : TypeId} {size n : Nat} {w : World} {v0 : Value} {xs : List Value} (h : KSl e size w v0 n xs) {g : Nat} {cs : Array Value} (hb : Blk w g t cs) (hne : t ≠ e) (x y z u v : Value) :
    KSl e size (((((w.setCell ⟨g, 0, none⟩ x).setCell ⟨g, 1, none⟩ y).setCell ⟨g, 2, none⟩ z).setCell ⟨g, 3, none⟩ u).setCell ⟨g, 4, none⟩ v) v0 n xs := by
  have hn : ∀ {w' : World} {cs' : Array Value}, Blk w' g t cs' → kindAt w' g ≠ some (some e) := fun h e' => hne (by rw [kind_blk h] at e'; injection e' with e'; injection e')
  have b0 := hb.put 0 x
  have b1 := b0.put 1 y
  have b2 := b1.put 2 z
  have b3 := b2.put 3 u
  exact ((((h.setCell (p := ⟨g, 0, none⟩) (hn hb) x).setCell (p := ⟨g, 1, none⟩) (hn b0) y).setCell (p := ⟨g, 2, none⟩) (hn b1) z).setCell (p := ⟨g, 3, none⟩) (hn b2) u).setCell (p := ⟨g, 4, none⟩) (hn b3) v
theorem rdiskTy : StructTy Tryd.prog 49 5 := ⟨⟨_, Tryd.underlying49⟩, by kernel_rfl⟩
/-- put's last steps. -/
theorem rkput_fin {w w7 : World} {R : RDk} {p : Pnd} {pc : Array Value} {A1 A2 A6 A7 : Option Addr} {c1 c2 k6 c6 c7 : Nat} {b : List UInt8} {z0 z1 z2 z3 z4 : Value} (hbn : (b.length : Int) = p.n)
    (HV2 : Sc w (.slice A2 R.ground.length c2) R.ground)
    (s7 : PuSt w #[.int .i64 R.size, .int .i64 R.limit, .slice A1 R.view.length c1, .slice A2 R.ground.length c2, .slice A6 k6 c6] pc #[z0, z1, z2, z3, z4] w7)
    (hp : KSl 98 3 w7 (.slice A6 k6 c6) (([] : List Pnd).length + R.pend.length + 1) (pncs [] ++ pncs R.pend ++ pncs [p]))
    (hv : Sc w7 (.slice A7 (rdL R.view p (b.length : Int)).length c7) (rdL R.view p (b.length : Int))) :
    let w9 := ((((((w7.setCell ⟨w.heap.size, 2, none⟩ (.slice A7 (rdL R.view p (b.length : Int)).length c7)).setCell ⟨w.heap.size + 1 + 1, 0, none⟩ (.int .i64 R.size)).setCell ⟨w.heap.size + 1 + 1, 1, none⟩ (.int .i64 R.limit)).setCell ⟨w.heap.size + 1 + 1, 2, none⟩ (.slice A7 (rdL R.view p (b.length : Int)).length c7)).setCell ⟨w.heap.size + 1 + 1, 3, none⟩ (.slice A2 R.ground.length c2)).setCell ⟨w.heap.size + 1 + 1, 4, none⟩ (.slice A6 k6 c6))
    Blk w9 (w.heap.size + 1 + 1) 49 #[.int .i64 R.size, .int .i64 R.limit, .slice A7 (rdL R.view p (b.length : Int)).length c7, .slice A2 R.ground.length c2, .slice A6 k6 c6] ∧
    Rk w9 (.agg #[.int .i64 R.size, .int .i64 R.limit, .slice A7 (rdL R.view p (b.length : Int)).length c7, .slice A2 R.ground.length c2, .slice A6 k6 c6]) (R.put p) ∧ Below w.heap.size w w9 := by
  intro w9
  have s8 := s7.putD 2 (.slice A7 (rdL R.view p (b.length : Int)).length c7)
  have k7 := kind_blk s7.d
  have hq : Below w.heap.size w w9 := below_put5 s8.below (by omega) _ _ _ _ _
  have hv8 : Sc (w7.setCell ⟨w.heap.size, 2, none⟩ (.slice A7 (rdL R.view p (b.length : Int)).length c7)) _ _ := KSl.setCell hv (p := ⟨w.heap.size, 2, none⟩) (by rw [k7]; decide) _
  have hp8 := hp.setCell (p := ⟨w.heap.size, 2, none⟩) (by rw [k7]; decide) (.slice A7 (rdL R.view p (b.length : Int)).length c7)
  refine ⟨s8.r.put5 _ _ _ _ _, ⟨_, _, _, rfl, ?_, HV2.later hq, ?_⟩, hq⟩
  · have := KSl.put5 hv8 s8.r (by decide) (.int .i64 R.size) (.int .i64 R.limit) (.slice A7 (rdL R.view p (b.length : Int)).length c7) (.slice A2 R.ground.length c2) (.slice A6 k6 c6)
    unfold RDk.put
    rw [← hbn]
    exact this
  · have := KSl.put5 hp8 s8.r (by decide) (.int .i64 R.size) (.int .i64 R.limit) (.slice A7 (rdL R.view p (b.length : Int)).length c7) (.slice A2 R.ground.length c2) (.slice A6 k6 c6)
    have e1 : (R.put p).pend = R.pend ++ [p] := rfl
    unfold Pc
    rw [e1, pncs_append, List.length_append]
    simpa [pncs] using this

set_option maxHeartbeats 4000000 in
set_option maxRecDepth 100000 in
theorem rkput_any (v : Value) (R : RDk) (p : Pnd) (w : World) (hr : Rk w v R) (hl : R.view.length ≤ 1000000) (hq : R.pend.length ≤ 1000000) (hpb : match p with | .wr _ b => b.length ≤ 1099511627776 | .fr _ => True) (hlb : ((lookL R.view (pnAt p)).getD []).length ≤ 1099511627776) :
    Calls Tryd.prog 50 #[v, .agg (pnC p)] w fun e w' => ∃ v', e = .returned v' ∧ Rk w' v' (R.put p) ∧ Below w.heap.size w w' := by
  obtain ⟨v1, v2, v3, rfl, hv1, hv2, hv3⟩ := hr
  obtain ⟨a, f, b, hpc, hbn, hbw⟩ := pnC_eq p
  obtain ⟨A1, c1, rfl, -, -, -⟩ := hv1.at
  obtain ⟨A2, c2, rfl, -, -, -⟩ := hv2.at
  obtain ⟨A3, c3, rfl, -, -, -⟩ := hv3.at
  have hbl : b.length ≤ 1099511627776 := by
    cases p with
    | wr a' b' => have := hbw a' b' rfl; subst this; exact hpb
    | fr a' => simp only [Pnd.n] at hbn; omega
  have HBN := Lib.hid hbn
  clear hbn hbw
  have HV1 := Lib.hid hv1
  have HV2 := Lib.hid hv2
  have HV3 := Lib.hid hv3
  have HPB := Lib.hid hpb
  have HLB := Lib.hid hlb
  have HPC := Lib.hid hpc
  rw [hpc]
  have S0 := PuSt.start w #[.int .i64 R.size, .int .i64 R.limit, .slice A1 R.view.length c1, .slice A2 R.ground.length c2, .slice A3 R.pend.length c3] #[.int .i64 a, .bool f, .string (st b)] #[.int .i64 0, .int .i64 0, .slice none 0 0, .slice none 0 0, .slice none 0 0]
  clear hv1 hv2 hv3 hpb hlb
  go_enter Tryd.func50, Tryd.ntmps50
  go_wp2_with fail
  generalize hW : ((w.alloc _).alloc _).alloc _ = W at *
  have d4 : W.cell? ⟨w.heap.size, 4, none⟩ = some (.slice A3 R.pend.length c3) := S0.d.cell 4
  have f4 : W.frozen? ⟨w.heap.size, 4, none⟩ = false := S0.d.free 4
  have p0 : W.cell? ⟨w.heap.size + 1, 0, none⟩ = some (.int .i64 a) := S0.p.cell 0
  have p1 : W.cell? ⟨w.heap.size + 1, 1, none⟩ = some (.bool f) := S0.p.cell 1
  have p2 : W.cell? ⟨w.heap.size + 1, 2, none⟩ = some (.string (st b)) := S0.p.cell 2
  have hWs := S0.size
  have l0 : w.heap.size < W.heap.size := S0.d.lt
  have l1 : w.heap.size + 1 < W.heap.size := S0.p.lt
  have n0 : ¬ w.heap.size = W.heap.size := by omega
  have n1 : ¬ w.heap.size + 1 = W.heap.size := by omega
  have HS := Lib.hid S0
  clear S0 hW
  go_region_law (first
    | (refine step_append_sl (W.alloc (.cells #[] 98)) (by first | exact ⟨0, rfl⟩ | exact ⟨1, rfl⟩ | exact ⟨2, rfl⟩ | exact ⟨3, rfl⟩) rfl (.tmp 5) (.tmp 7) elemPnd rfl (Po.made W (w.heap.size + 1 + 1 + 1) HS.out.size rfl) (HV3.out.later (HS.out.alloc (.cells #[] 98)).below) rfl rfl (pncs_one _) (by simp only [maxLen]; simp; omega) (by simp; omega) (HS.out.alloc (.cells #[] 98)).size ?_; intro A5 k5 c5 w5 hown5 hg5; have s5 := Lib.hid ((HS.out.alloc (.cells #[] 98)).app (Po.made W (w.heap.size + 1 + 1 + 1) HS.out.size rfl) hg5); have xl := s5.out.d.lt; have xm := s5.out.p.lt; have x4 := s5.out.d.cell 4; have xf := s5.out.d.free 4; have x0 := s5.out.p.cell 0; have x1 := s5.out.p.cell 1; have x2 := s5.out.p.cell 2; simp at x4 x0 x1 x2)
    | (refine step_append_sl ((W.alloc (.cells #[] 98)).alloc (.cells #[.int .i64 a, .bool f, .string (st b)] 98)) (by first | exact ⟨0, rfl⟩ | exact ⟨1, rfl⟩ | exact ⟨2, rfl⟩ | exact ⟨3, rfl⟩) rfl (.tmp 5) (.tmp 7) elemPnd rfl (World.ownsRow.alloc (Po.made W (w.heap.size + 1 + 1 + 1) HS.out.size rfl) (.cells #[.int .i64 a, .bool f, .string (st b)] 98)) (HV3.out.later ((HS.out.alloc (.cells #[] 98)).alloc (.cells #[.int .i64 a, .bool f, .string (st b)] 98)).below) rfl rfl (pncs_one _) (by simp only [maxLen]; simp; omega) (by simp; omega) ((HS.out.alloc (.cells #[] 98)).alloc (.cells #[.int .i64 a, .bool f, .string (st b)] 98)).size ?_; intro A5 k5 c5 w5 hown5 hg5; have s5 := Lib.hid (((HS.out.alloc (.cells #[] 98)).alloc (.cells #[.int .i64 a, .bool f, .string (st b)] 98)).app (World.ownsRow.alloc (Po.made W (w.heap.size + 1 + 1 + 1) HS.out.size rfl) (.cells #[.int .i64 a, .bool f, .string (st b)] 98)) hg5); have xl := s5.out.d.lt; have xm := s5.out.p.lt; have x4 := s5.out.d.cell 4; have xf := s5.out.d.free 4; have x0 := s5.out.p.cell 0; have x1 := s5.out.p.cell 1; have x2 := s5.out.p.cell 2; simp at x4 x0 x1 x2; have HN5 : Hid (Sl (fun x => x = W.heap.size + 1) w5 3 (.slice (some ⟨W.heap.size + 1, 0, none⟩) 1 1) 1 (pncs [p])) := Sl.grown (by have := Sl.newpnd (S := fun x => x = W.heap.size + 1) (W.alloc (.cells #[] 98)) p (g := W.heap.size + 1) (by simp) rfl; rw [HPC.out] at this; exact this) hg5 (fun x hx => by subst hx; simp) (fun x hx => by subst hx; simp [Value.ownBlock]))
    | (refine step_append_sl ((W.alloc (.cells #[.int .i64 a, .bool f, .string (st b)] 98)).alloc (.cells #[] 98)) (by first | exact ⟨0, rfl⟩ | exact ⟨1, rfl⟩ | exact ⟨2, rfl⟩ | exact ⟨3, rfl⟩) rfl (.tmp 5) (.tmp 7) elemPnd rfl (Po.made (W.alloc (.cells #[.int .i64 a, .bool f, .string (st b)] 98)) (w.heap.size + 1 + 1 + 1) (HS.out.alloc (.cells #[.int .i64 a, .bool f, .string (st b)] 98)).size (g := W.heap.size + 1) (by simp)) (HV3.out.later ((HS.out.alloc (.cells #[.int .i64 a, .bool f, .string (st b)] 98)).alloc (.cells #[] 98)).below) rfl rfl (pncs_one _) (by simp only [maxLen]; simp; omega) (by simp; omega) ((HS.out.alloc (.cells #[.int .i64 a, .bool f, .string (st b)] 98)).alloc (.cells #[] 98)).size ?_; intro A5 k5 c5 w5 hown5 hg5; have s5 := Lib.hid (((HS.out.alloc (.cells #[.int .i64 a, .bool f, .string (st b)] 98)).alloc (.cells #[] 98)).app (Po.made (W.alloc (.cells #[.int .i64 a, .bool f, .string (st b)] 98)) (w.heap.size + 1 + 1 + 1) (HS.out.alloc (.cells #[.int .i64 a, .bool f, .string (st b)] 98)).size (g := W.heap.size + 1) (by simp)) hg5); have xl := s5.out.d.lt; have xm := s5.out.p.lt; have x4 := s5.out.d.cell 4; have xf := s5.out.d.free 4; have x0 := s5.out.p.cell 0; have x1 := s5.out.p.cell 1; have x2 := s5.out.p.cell 2; simp at x4 x0 x1 x2; have HN5 : Hid (Sl (fun x => x = W.heap.size) w5 3 (.slice (some ⟨W.heap.size, 0, none⟩) 1 1) 1 (pncs [p])) := Sl.grown (Sl.alloc (by have := Sl.newpnd (S := fun x => x = W.heap.size) W p rfl rfl; rw [HPC.out] at this; exact this) (fun x hx => by subst hx; simp) (.cells #[] 98)) hg5 (fun x hx => by subst hx; simp; omega) (fun x hx => by subst hx; simp [Value.ownBlock]))
    | (refine step_append_sl w5 (by first | exact ⟨0, rfl⟩ | exact ⟨1, rfl⟩ | exact ⟨2, rfl⟩ | exact ⟨3, rfl⟩) rfl (.tmp 8) (.tmp 10) elemPnd rfl hown5 HN5.out rfl rfl (pncs_one [p]) (by simp only [maxLen]; simp; omega) (by simp; omega) s5.out.size ?_; intro A6 k6 c6 w6 hown6 hg6; have s6 := Lib.hid (s5.out.app hown5 hg6); have yl := s6.out.d.lt; have ym := s6.out.p.lt; have y4 := s6.out.d.cell 4; have yv := s6.out.d.cell 2; have yf := s6.out.d.free 4; have y0 := s6.out.p.cell 0; have y1 := s6.out.p.cell 1; have y2 := s6.out.p.cell 2; simp at y4 yv y0 y1 y2)
    | (refine step_append_sl (w5.alloc (.cells #[.int .i64 a, .bool f, .string (st b)] 98)) (by first | exact ⟨0, rfl⟩ | exact ⟨1, rfl⟩ | exact ⟨2, rfl⟩ | exact ⟨3, rfl⟩) rfl (.tmp 8) (.tmp 10) elemPnd rfl (World.ownsRow.alloc hown5 (.cells #[.int .i64 a, .bool f, .string (st b)] 98)) (by have := Sl.newpnd (S := fun _ => True) w5 p rfl trivial; rw [HPC.out] at this; exact this) rfl rfl (pncs_one [p]) (by simp only [maxLen]; simp; omega) (by simp; omega) (s5.out.alloc (.cells #[.int .i64 a, .bool f, .string (st b)] 98)).size ?_; intro A6 k6 c6 w6 hown6 hg6; have s6 := Lib.hid ((s5.out.alloc (.cells #[.int .i64 a, .bool f, .string (st b)] 98)).app (World.ownsRow.alloc hown5 (.cells #[.int .i64 a, .bool f, .string (st b)] 98)) hg6); have yl := s6.out.d.lt; have ym := s6.out.p.lt; have y4 := s6.out.d.cell 4; have yv := s6.out.d.cell 2; have yf := s6.out.d.free 4; have y0 := s6.out.p.cell 0; have y1 := s6.out.p.cell 1; have y2 := s6.out.p.cell 2; simp at y4 yv y0 y1 y2))
  all_goals
    go_wp2_with fail
    rw [← HPC.out]
    refine (rdone_any _ R.view p (b.length : Int) _ (HV1.out.later (s6.out.below.setCell (Nat.le_refl _) _)) hl (by unfold InI; omega) HPB.out HLB.out).mono ?_
    rintro e w7 ⟨A7, c7, rfl, hsc7, hbl7⟩
    have s7 := Lib.hid ((s6.out.putD 4 (.slice A6 k6 c6)).to (hbl7.mono (by simpa using s6.out.size)))
    have HP7 := Lib.hid ((((KSl.of_own (by omega) hown6).setCell (p := ⟨w.heap.size, 4, none⟩) (by rw [kind_blk s6.out.d]; decide) (.slice A6 k6 c6)).later hbl7))
    have HS7 := Lib.hid hsc7
    have z0 : w7.cell? ⟨w.heap.size, 0, none⟩ = some (.int .i64 R.size) := s7.out.d.cell 0
    have z1 : w7.cell? ⟨w.heap.size, 1, none⟩ = some (.int .i64 R.limit) := s7.out.d.cell 1
    have z2 : w7.cell? ⟨w.heap.size, 2, none⟩ = some (.slice A1 R.view.length c1) := s7.out.d.cell 2
    have z3 : w7.cell? ⟨w.heap.size, 3, none⟩ = some (.slice A2 R.ground.length c2) := s7.out.d.cell 3
    have z4 : w7.cell? ⟨w.heap.size, 4, none⟩ = some (.slice A6 k6 c6) := s7.out.d.cell 4
    have f2 := s7.out.d.free 2
    have r0 : w7.cell? ⟨w.heap.size + 1 + 1, 0, none⟩ = some (.int .i64 0) := s7.out.r.cell 0
    have r1 : w7.cell? ⟨w.heap.size + 1 + 1, 1, none⟩ = some (.int .i64 0) := s7.out.r.cell 1
    have r2 : w7.cell? ⟨w.heap.size + 1 + 1, 2, none⟩ = some (.slice none 0 0) := s7.out.r.cell 2
    have r3 : w7.cell? ⟨w.heap.size + 1 + 1, 3, none⟩ = some (.slice none 0 0) := s7.out.r.cell 3
    have r4 : w7.cell? ⟨w.heap.size + 1 + 1, 4, none⟩ = some (.slice none 0 0) := s7.out.r.cell 4
    have g0 := s7.out.r.free 0
    have g1 := s7.out.r.free 1
    have g2 := s7.out.r.free 2
    have g3 := s7.out.r.free 3
    have g4 := s7.out.r.free 4
    have HF := Lib.hid (rkput_fin HBN.out HV2.out s7.out HP7.out HS7.out)
    clear hsc7 hbl7 hown6 hg6 hown5 hg5 d4 f4 p0 p1 p2 l0 l1 n0 n1 x4 xf x0 x1 x2 xl xm y4 yv yf y0 y1 y2 yl ym
    go_wp2_with fail
    exact bodyPost_ret (results_cell1 rfl _ _ (w.heap.size + 1 + 1) rfl HF.out.1 rdiskTy) rfl ⟨_, rfl, HF.out.2.1, HF.out.2.2⟩
end Go.Proofs.YtpmndmgfoiagnaaDoor
