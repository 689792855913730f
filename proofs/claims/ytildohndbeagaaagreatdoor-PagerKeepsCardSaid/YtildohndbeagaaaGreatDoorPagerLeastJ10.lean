/- What the proof of PagerLeast needs, part 10. -/
import Derived.Test.YtildohndbeagaaaGreatDoorPagerLeastJ9

namespace Go.Proofs.YtildohndbeagaaaGreatDoor
open Go
set_option linter.unusedVariables false

/-- What the meta page tells. -/
def tellB (num tag : Nat) (tb : TF) : List UInt8 := if num = 0 then [] else tellsT tag tb
/-- THE DISK KEEPS a table, and what its pages are. -/
structure Kp (D : Dsk) (a : Int) (n num : Nat) (last : Int) (tag : Nat) (tb : TF) (c : Int → List UInt8) : Prop where
  mj : Mj D a num last (tellB num tag tb)
  zero : num = 0 → tag = 0 ∧ tb = fun _ => none
  tok : TbOk n tb
  n2 : 2 ≤ n
  n256 : n ≤ 256
  fit : a + 2 + 4 * (n : Int) ≤ D.size
  cont : ∀ i p l, tb i = some (p, l) → (c i).length = l ∧ ∀ k : Nat, 512 * k < l → D.view (secAt a p + (k : Int)) = some (chunk (c i) k)
  tagU : tag < U64
section
variable {D D' : Dsk} {a : Int} {n num : Nat} {last : Int} {tag : Nat} {tb : TF} {c : Int → List UInt8}
theorem Kp.start (h : Still D) (hv : ∀ x, D.view x = none) (h0 : 0 ≤ a) (h2 : 2 ≤ n) (h256 : n ≤ 256) (hf : a + 2 + 4 * (n : Int) ≤ D.size) : Kp D a n 0 1 0 (fun _ => none) c :=
  ⟨Mj.start h h0 (by omega) (hv _) (hv _), fun _ => ⟨rfl, rfl⟩, TbOk.none n, h2, h256, hf, fun i p l h => (by cases h), by unfold U64; omega⟩
theorem Kp.open (h : Kp D a n num last tag tb c) : pgOpen D a n = some (pgNew D a n num last (tag, tb)) := by
  unfold pgOpen
  rw [h.mj.open]
  simp only
  by_cases h0 : num = 0
  · obtain ⟨rfl, rfl⟩ := h.zero h0
    rw [if_pos h0, h0]
  · rw [if_neg h0, tellB, if_neg h0, pgParse_tells h.n256 h.tok h.tagU]
    rfl
theorem Kp.else (h : Kp D a n num last tag tb c) (h' : Still D') (hs : D'.size = D.size) (h0 : D'.view a = D.view a) (h1 : D'.view (a + 1) = D.view (a + 1)) (h2 : ∀ i p l, tb i = some (p, l) → ∀ k : Nat, k < 4 → D'.view (secAt a p + (k : Int)) = D.view (secAt a p + (k : Int))) : Kp D' a n num last tag tb c :=
  ⟨h.mj.else h' hs h0 h1, h.zero, h.tok, h.n2, h.n256, by rw [hs]; exact h.fit, fun i p l hi => ⟨(h.cont i p l hi).1, fun k hk => by rw [h2 i p l hi k (by have := (h.tok.row i p l hi).2; omega)]; exact (h.cont i p l hi).2 k hk⟩, h.tagU⟩
theorem secAt_ne {p q k m : Nat} (hk : k < 4) (hm : m < 4) (h : p ≠ q) : secAt a p + (k : Int) ≠ secAt a q + (m : Int) := by unfold secAt; omega
end
theorem chunk_len (b : List UInt8) (k : Nat) : (chunk b k).length ≤ 512 := by unfold chunk; rw [List.length_take]; omega
theorem chunks_lt {b : List UInt8} {k : Nat} : k < chunksN b ↔ 512 * k < b.length := by unfold chunksN; omega
theorem decI_eq {s : Int} (h : -9223372036854775808 < s) (h2 : s ≤ 9223372036854775807) : decI s = s - 1 := by unfold decI; rw [IntKind.wrap_i64]; omega

/-! ### Stepping -/
theorem stepW_ok {D0 : Dsk} (h0 : Still D0) {S : Int → Prop} (hS : ∀ x, S x → 0 ≤ x ∧ x < D0.size) : ∀ (ws : List (Int × List UInt8)) (D : Dsk) (s : Int), Wrote D0 D S → (∀ x ∈ ws, S x.1 ∧ x.2.length ≤ 512) →
    Wrote D0 (stepW D s ws).1 S ∧ (stepW D s ws).1.pend.length ≤ D.pend.length + ws.length ∧ ((stepW D s ws).2.2 = some 0 ∨ (stepW D s ws).2.2 = none ∧ (∀ x ∈ ws, (∀ y ∈ ws, y.1 = x.1 → y.2 = x.2) → (stepW D s ws).1.view x.1 = some x.2) ∧ ∀ y, (∀ x ∈ ws, x.1 ≠ y) → (stepW D s ws).1.view y = D.view y)
  | [], D, s, hW, _ => ⟨hW, by simp [stepW], .inr ⟨rfl, by simp, fun y _ => rfl⟩⟩
  | x :: r, D, s, hW, hws => by
    obtain ⟨hx, hxl⟩ := hws x (by simp)
    obtain ⟨hx0, hx1⟩ := hS _ hx
    have hw : D.why x.1 x.2 = 0 := why_low hW.ok hW.low (by rw [hW.size, hW.limit]; exact h0.lim) hx0 (by rw [hW.size]; exact hx1) hxl
    unfold stepW
    by_cases hd : decI s < 0
    · rw [if_pos hd]
      exact ⟨hW, by simp, .inl rfl⟩
    · rw [if_neg hd, if_pos hw]
      have hv : (D.write x.1 x.2).view = D.view.put x.1 x.2 := by rw [write_view hw, put_view]
      obtain ⟨h1, h2, h3⟩ := stepW_ok h0 hS r (D.write x.1 x.2) (decI s) (hW.write hx hw) (fun y hy => hws y (by simp [hy]))
      have hp := write_pend D x.1 x.2
      refine ⟨h1, by rw [List.length_cons]; omega, ?_⟩
      rcases h3 with h3 | ⟨h3, h4, h5⟩
      · exact .inl h3
      · refine .inr ⟨h3, fun z hz hone => ?_, fun y hy => ?_⟩
        · by_cases hr : ∃ y ∈ r, y.1 = z.1
          · obtain ⟨y, hy, e⟩ := hr
            have e2 := hone y (by simp [hy]) e
            have := h4 y hy fun u hu hu1 => by rw [hone u (by simp [hu]) (hu1.trans e), e2]
            rw [← e, this, e2]
          · rw [h5 z.1 fun y hy e => hr ⟨y, hy, e⟩, hv]
            have hzx : z = x := by
              rcases List.mem_cons.1 hz with h | h
              · exact h
              · exact absurd ⟨z, h, rfl⟩ hr
            subst hzx
            exact if_pos rfl
        · rw [h5 y fun z hz => hy z (by simp [hz]), hv]
          exact if_neg (fun e => hy x (by simp) e.symm)
theorem stepW_all {D0 : Dsk} (h0 : Still D0) {S : Int → Prop} (hS : ∀ x, S x → 0 ≤ x ∧ x < D0.size) : ∀ (ws : List (Int × List UInt8)) (D : Dsk) (s : Int), Wrote D0 D S → (∀ x ∈ ws, S x.1 ∧ x.2.length ≤ 512) → (ws.length : Int) ≤ s → s ≤ 9223372036854775807 →
    (stepW D s ws).2.2 = none ∧ (stepW D s ws).2.1 = s - ws.length
  | [], D, s, hW, _, _, _ => ⟨rfl, by simp [stepW]⟩
  | x :: r, D, s, hW, hws, hl, hm => by
    obtain ⟨hx, hxl⟩ := hws x (by simp)
    obtain ⟨hx0, hx1⟩ := hS _ hx
    have hw : D.why x.1 x.2 = 0 := why_low hW.ok hW.low (by rw [hW.size, hW.limit]; exact h0.lim) hx0 (by rw [hW.size]; exact hx1) hxl
    rw [List.length_cons] at hl
    have hd := decI_eq (s := s) (by omega) hm
    unfold stepW
    rw [if_neg (by rw [hd]; omega), if_pos hw]
    have := stepW_all h0 hS r (D.write x.1 x.2) (decI s) (hW.write hx hw) (fun y hy => hws y (by simp [hy])) (by rw [hd]; omega) (by rw [hd]; omega)
    refine ⟨this.1, ?_⟩
    rw [this.2, hd, List.length_cons]
    omega

/-- A pager that lies well: what it keeps, what was written since. -/
structure Pk (P : Pgr) (c : Int → List UInt8) : Prop where
  kp : Kp P.D P.a P.n P.num P.last P.tag P.tb c
  w90 : In90 P.wr
  wlen : ∀ x b, P.wr x = some b → b.length ≤ 2048
  g90 : ∀ x, P.gn x = true → 0 ≤ x ∧ x < 90
/-- What the pages are, once all stays. -/
def newC (P : Pgr) (c : Int → List UInt8) : Int → List UInt8 := fun i => (P.wr i).getD (c i)
/-- The sectors that a commit writes. -/
def newS (P : Pgr) (t : TF) (x : Int) : Prop := ∃ i p b, P.wr i = some b ∧ t i = some (p, b.length) ∧ ∃ k : Nat, k < 4 ∧ x = secAt P.a p + (k : Int)
section
variable {P : Pgr} {c : Int → List UInt8} {t : TF} {tag : Nat}
theorem mem_wrL {x : Int × List UInt8} (hwl : ∀ x b, P.wr x = some b → b.length ≤ 2048) (hnw : ∀ x b, P.wr x = some b → ∃ p, t x = some (p, b.length)) (h : x ∈ wrL P.a t P.wr (idsOf P.wr)) :
    ∃ i p b, P.wr i = some b ∧ t i = some (p, b.length) ∧ ∃ k : Nat, k < 4 ∧ x.1 = secAt P.a p + (k : Int) ∧ x.2 = chunk b k := by
  obtain ⟨i, hi, hx⟩ := List.mem_flatMap.1 h
  obtain ⟨b, hb⟩ := Option.isSome_iff_exists.1 (mem_ids.1 hi).2
  obtain ⟨p, hp⟩ := hnw _ b hb
  unfold pageL pageW at hx
  rw [hb, hp] at hx
  obtain ⟨k, hk, rfl⟩ := List.mem_map.1 hx
  rw [List.mem_range'_1] at hk
  have hk2 : k < chunksN b := by have := hk.2; simp only [Option.getD_some] at this; omega
  have := hwl _ b hb
  have := chunks_lt.1 hk2
  exact ⟨_, p, b, hb, hp, k, by omega, rfl, rfl⟩
theorem wrL_mem {i : Int} {p : Nat} {b : List UInt8} {k : Nat} (hw : In90 P.wr) (hb : P.wr i = some b) (hp : t i = some (p, b.length)) (hk : 512 * k < b.length) : (secAt P.a p + (k : Int), chunk b k) ∈ wrL P.a t P.wr (idsOf P.wr) := by
  have h9 := hw i (by rw [hb]; rfl)
  have e : ((i.toNat : Nat) : Int) = i := by omega
  refine List.mem_flatMap.2 ⟨i.toNat, mem_ids.2 ⟨by omega, by rw [e, hb]; rfl⟩, ?_⟩
  unfold pageL pageW
  rw [e, hb, hp]
  refine List.mem_map.2 ⟨k, ?_, rfl⟩
  rw [List.mem_range'_1]
  have := chunks_lt.2 hk
  simp only [Option.getD_some]
  omega
theorem flat_len2 {α : Type} {f : Nat → List α} {m : Nat} : ∀ (l : List Nat), (∀ i ∈ l, (f i).length ≤ m) → (l.flatMap f).length ≤ m * l.length
  | [], _ => by simp
  | i :: r, h => by
    have h1 := h i (by simp)
    have h2 := flat_len2 r fun j hj => h j (by simp [hj])
    rw [List.flatMap_cons, List.length_append, List.length_cons, Nat.mul_succ]
    omega
theorem wrL_len (hwl : ∀ x b, P.wr x = some b → b.length ≤ 2048) : (wrL P.a t P.wr (idsOf P.wr)).length ≤ 360 := by
  have h1 := flat_len2 (f := pageL P.a t P.wr) (m := 4) (idsOf P.wr) fun i hi => by
    unfold pageL pageW
    rw [List.length_map, List.length_range']
    cases hb : P.wr (i : Int) with
    | none => simp [chunksN]
    | some b => have := hwl _ b hb; simp only [Option.getD_some]; unfold chunksN; omega
  have h2 := ids_le P.wr
  have h3 : 4 * (idsOf P.wr).length ≤ 4 * 90 := Nat.mul_le_mul_left 4 h2
  exact Nat.le_trans h1 (by omega)

/-- All but the meta page is done. -/
theorem Pk.wrote (h : Pk P c) (ht : P.next = some t) (k : Int) :
    Wrote P.D (stepW P.D k (wrL P.a t P.wr (idsOf P.wr))).1 (newS P t) ∧ (stepW P.D k (wrL P.a t P.wr (idsOf P.wr))).1.pend.length ≤ 360 ∧ (∀ x, newS P t x → P.a + 2 ≤ x ∧ x < P.D.size) ∧ (∀ i p l, P.tb i = some (p, l) → ∀ k : Nat, k < 4 → ¬ newS P t (secAt P.a p + (k : Int))) ∧
      ((stepW P.D k (wrL P.a t P.wr (idsOf P.wr))).2.2 = some 0 ∨ (stepW P.D k (wrL P.a t P.wr (idsOf P.wr))).2.2 = none ∧ ∀ i p l, t i = some (p, l) → (newC P c i).length = l ∧ ∀ k' : Nat, 512 * k' < l → (stepW P.D k (wrL P.a t P.wr (idsOf P.wr))).1.view (secAt P.a p + (k' : Int)) = some (chunk (newC P c i) k')) := by
  obtain ⟨n1, n2, n3, n4⟩ := next_ok h.kp.tok h.w90 h.wlen ht
  have hnw : ∀ x b, P.wr x = some b → ∃ p, t x = some (p, b.length) := fun x b hx => by obtain ⟨p, h1, _⟩ := n3 x b hx; exact ⟨p, h1⟩
  have hS : ∀ x, newS P t x → P.a + 2 ≤ x ∧ x < P.D.size := by
    rintro x ⟨i, p, b, hb, hp, k, hk, rfl⟩
    have h1 := (n1.row i p _ hp).1
    have h2 := h.kp.fit
    unfold secAt
    omega
  have ha := h.kp.mj.a0
  have hold : ∀ i p l, P.tb i = some (p, l) → ∀ k : Nat, k < 4 → ¬ newS P t (secAt P.a p + (k : Int)) := by
    rintro i p l hi k hk ⟨j, q, b, hb, hq, m, hm, e⟩
    obtain ⟨q', h1, h2⟩ := n3 j b hb
    rw [hq] at h1
    simp only [Option.some.injEq, Prod.mk.injEq] at h1
    exact secAt_ne hk hm (by rw [h1.1]; exact h2 i p l hi) e
  have hws : ∀ x ∈ wrL P.a t P.wr (idsOf P.wr), newS P t x.1 ∧ x.2.length ≤ 512 := fun x hx => by
    obtain ⟨i, p, b, h1, h2, k, h3, h4, h5⟩ := mem_wrL h.wlen hnw hx
    exact ⟨⟨i, p, b, h1, h2, k, h3, h4⟩, by rw [h5]; exact chunk_len b k⟩
  obtain ⟨w1, w2, w3⟩ := stepW_ok h.kp.mj.still (S := newS P t) (fun x hx => by have := hS x hx; omega) (wrL P.a t P.wr (idsOf P.wr)) P.D k (Wrote.start h.kp.mj.still _) hws
  have hp := h.kp.mj.still.pend
  have hlen := wrL_len (t := t) h.wlen
  refine ⟨w1, by rw [hp] at w2; simp only [List.length_nil] at w2; omega, hS, hold, ?_⟩
  rcases w3 with w3 | ⟨w3, w4, w5⟩
  · exact .inl w3
  · refine .inr ⟨w3, fun i p l hi => ?_⟩
    have e : newC P c i = (P.wr i).getD (c i) := rfl
    cases hb : P.wr i with
    | some b =>
      rw [hb] at e
      obtain ⟨q, h1, _⟩ := n3 i b hb
      rw [hi] at h1
      simp only [Option.some.injEq, Prod.mk.injEq] at h1
      obtain ⟨rfl, rfl⟩ := h1
      rw [e]
      simp only [Option.getD_some]
      refine ⟨trivial, fun k' hk' => ?_⟩
      refine w4 (secAt P.a p + (k' : Int), chunk b k') (wrL_mem h.w90 hb hi hk') fun y hy hy1 => ?_
      obtain ⟨j, q, b', h1, h2, m, h3, h4, h5⟩ := mem_wrL h.wlen hnw hy
      rw [h4] at hy1
      have hk4 : k' < 4 := by have := h.wlen i b hb; omega
      by_cases hpq : q = p
      · subst hpq
        have hij := n1.one _ _ _ _ _ hi h2
        subst hij
        rw [hb] at h1
        simp only [Option.some.injEq] at h1
        subst h1
        have : m = k' := by omega
        rw [h5, this]
      · exact absurd hy1 (secAt_ne h3 hk4 hpq)
    | none =>
      rw [hb] at e
      rw [e]
      simp only [Option.getD_none]
      have hti : P.tb i = some (p, l) := by
        have h1 := n2 i
        rw [hi, hb] at h1
        simp only [Option.isSome_some, Option.isSome_none, Bool.false_or] at h1
        have h2 := h1.symm
        rw [Bool.and_eq_true, Bool.not_eq_true'] at h2
        rw [← n4 i hb h2.2, hi]
      obtain ⟨c1, c2⟩ := h.kp.cont i p l hti
      refine ⟨c1, fun k' hk' => ?_⟩
      rw [w5 _ fun x hx ex => ?_]
      · exact c2 k' hk'
      · obtain ⟨j, q, b', h1, h2, m, h3, h4, h5⟩ := mem_wrL h.wlen hnw hx
        exact hold i p l hti k' (by have := (h.kp.tok.row i p l hti).2; omega) ⟨j, q, b', h1, h2, m, h3, ex.symm.trans h4⟩
/-- Where the steps of a commit lead. -/
structure StOk (P : Pgr) (c : Int → List UInt8) (t : TF) (tag : Nat) (s : PgSt) : Prop where
  err : s.err = 0
  ok : s.P.D.Ok
  pend : s.P.D.pend.length ≤ 400
  done : s.done = true → ∃ D', s.P = ⟨D', P.a, P.n, P.num + 1, 1 - P.last, tag, t, fun _ => none, fun _ => false⟩ ∧ Kp D' P.a P.n (P.num + 1) (1 - P.last) tag t (newC P c) ∧ D'.size = P.D.size
  stop : s.done = false → (∃ D', s.P = { P with D := D' }) ∧ ∀ l, (s.P.D.crash l).size = P.D.size ∧ (Kp (s.P.D.crash l) P.a P.n P.num P.last P.tag P.tb c ∨ Kp (s.P.D.crash l) P.a P.n (P.num + 1) (1 - P.last) tag t (newC P c))
theorem Pk.steps (h : Pk P c) (hn : P.num + 1 < U64) (htag : tag < U64) (ht : P.next = some t) (k : Int) : StOk P c t tag (P.steps tag k) := by
  obtain ⟨n1, n2, n3, n4⟩ := next_ok h.kp.tok h.w90 h.wlen ht
  obtain ⟨w1, w2, hS, hold, w3⟩ := h.wrote ht k
  have ha := h.kp.mj.a0
  have hstill := h.kp.mj.still
  have hstop : ∀ l, ((stepW P.D k (wrL P.a t P.wr (idsOf P.wr))).1.crash l).size = P.D.size ∧ Kp ((stepW P.D k (wrL P.a t P.wr (idsOf P.wr))).1.crash l) P.a P.n P.num P.last P.tag P.tb c := fun l => by
    obtain ⟨c1, c2, c3⟩ := w1.crash hstill (fun x hx => (hS x hx).2) l
    exact ⟨c3, h.kp.else c1 c3 (c2 _ fun hx => by have := hS _ hx; omega) (c2 _ fun hx => by have := hS _ hx; omega) fun i p l hi k hk => c2 _ (hold i p l hi k hk)⟩
  have hd : P.steps tag k = P.steps1 t tag (stepW P.D k (wrL P.a t P.wr (idsOf P.wr))) := by
    unfold Pgr.steps
    rw [ht]
  rw [hd]
  obtain ⟨R, hR⟩ : ∃ R, stepW P.D k (wrL P.a t P.wr (idsOf P.wr)) = R := ⟨_, rfl⟩
  rw [hR] at w1 w2 w3 hstop ⊢
  obtain ⟨D1, s1, r1⟩ := R
  simp only at w1 w2 w3 hstop
  rcases w3 with rfl | ⟨rfl, w4⟩
  · exact ⟨rfl, w1.ok, by show D1.pend.length ≤ 400; omega, fun h => (by cases h), fun _ => ⟨⟨D1, rfl⟩, fun l => ⟨(hstop l).1, .inl (hstop l).2⟩⟩⟩
  · by_cases hdec : decI s1 < 0
    · have e : P.steps1 t tag (D1, s1, none) = ⟨{ P with D := D1 }, false, 0⟩ := by
        unfold Pgr.steps1
        simp only
        rw [if_pos hdec]
      rw [e]
      exact ⟨rfl, w1.ok, by show D1.pend.length ≤ 400; omega, fun h => (by cases h), fun _ => ⟨⟨D1, rfl⟩, fun l => ⟨(hstop l).1, .inl (hstop l).2⟩⟩⟩
    · have hst2 := w1.sync hstill
      have hsz2 : D1.sync.size = P.D.size := w1.size
      have hvw : ∀ x, ¬ newS P t x → D1.sync.view x = P.D.view x := w1.view
      have hk2 : Kp D1.sync P.a P.n P.num P.last P.tag P.tb c := h.kp.else hst2 hsz2 (hvw _ fun hx => by have := hS _ hx; omega) (hvw _ fun hx => by have := hS _ hx; omega) fun i p l hi k hk => hvw _ (hold i p l hi k hk)
      have hlen := tells_len h.kp.n256 n1 htag
      have hms := hk2.mj.steps hn hlen (decI s1)
      have new : ∀ {D2 : Dsk}, Mj D2 P.a (P.num + 1) (1 - P.last) (tellsT tag t) → (∀ y, y ≠ P.a → y ≠ P.a + 1 → D2.view y = D1.sync.view y) → D2.size = D1.sync.size → Kp D2 P.a P.n (P.num + 1) (1 - P.last) tag t (newC P c) := fun {D2} hm hv hs =>
        ⟨by unfold tellB; rw [if_neg (by omega)]; exact hm, fun e => by omega, n1, h.kp.n2, h.kp.n256, by rw [hs, hsz2]; exact h.kp.fit, fun i p l hi => ⟨(w4 i p l hi).1, fun k' hk' => by
          rw [hv _ (by unfold secAt; omega) (by unfold secAt; omega)]
          exact (w4 i p l hi).2 k' hk'⟩, htag⟩
      have e : P.steps1 t tag (D1, s1, none) = P.fin t tag (mtSteps D1.sync P.a P.num P.last (tellsT tag t) (decI s1)) := by
        unfold Pgr.steps1
        simp only
        rw [if_neg hdec]
      rw [e, hms]
      have hok := dAt_ok hst2.ok (P.a + (1 - P.last)) (recB (P.num + 1) (tellsT tag t)) (stepI (decI s1))
      have hpn := dAt_pend D1.sync (P.a + (1 - P.last)) (recB (P.num + 1) (tellsT tag t)) (stepI (decI s1))
      have hp0 : D1.sync.pend.length = 0 := rfl
      rw [hp0] at hpn
      by_cases h4 : stepI (decI s1) = 4
      · unfold Pgr.fin
        simp only [h4, decide_true, if_true]
        rw [h4] at hok hpn
        obtain ⟨m1, m2, m3⟩ := hk2.mj.done hn hlen
        exact ⟨rfl, hok, by show (dAt _ _ _ 4).pend.length ≤ 400; omega, fun _ => ⟨_, rfl, new m1 m2 m3, m3.trans hsz2⟩, fun h => by cases h⟩
      · unfold Pgr.fin
        simp only [h4, decide_false, if_false, Bool.false_eq_true]
        refine ⟨rfl, hok, by show (dAt _ _ _ _).pend.length ≤ 400; omega, fun h => (by cases h), fun _ => ⟨⟨_, rfl⟩, fun l => ?_⟩⟩
        obtain ⟨m1, m2, m3⟩ := hk2.mj.crash hn hlen l (stepI (decI s1)) (stepI_le _)
        refine ⟨m3.trans hsz2, ?_⟩
        rcases m1 with ⟨_, m1⟩ | ⟨_, m1⟩
        · left
          exact ⟨m1, h.kp.zero, h.kp.tok, h.kp.n2, h.kp.n256, by rw [m3, hsz2]; exact h.kp.fit, fun i p l hi => ⟨(hk2.cont i p l hi).1, fun k' hk' => by
            rw [m2 _ (by unfold secAt; omega) (by unfold secAt; omega)]
            exact (hk2.cont i p l hi).2 k' hk'⟩, h.kp.tagU⟩
        · exact .inr (new m1 m2 m3)
/-- With steps enough all is done. -/
theorem Pk.all (h : Pk P c) (hn : P.num + 1 < U64) (htag : tag < U64) (ht : P.next = some t) {k : Int} (hk : 400 ≤ k) (hk2 : k ≤ 9223372036854775807) : (P.steps tag k).done = true := by
  obtain ⟨n1, n2, n3, n4⟩ := next_ok h.kp.tok h.w90 h.wlen ht
  obtain ⟨w1, w2, hS, hold, w3⟩ := h.wrote ht k
  have ha := h.kp.mj.a0
  have hstill := h.kp.mj.still
  have hnw : ∀ x b, P.wr x = some b → ∃ p, t x = some (p, b.length) := fun x b hx => by obtain ⟨p, h1, _⟩ := n3 x b hx; exact ⟨p, h1⟩
  have hlen := wrL_len (t := t) h.wlen
  have hall := stepW_all hstill (S := newS P t) (fun x hx => by have := hS x hx; omega) (wrL P.a t P.wr (idsOf P.wr)) P.D k (Wrote.start hstill _) (fun x hx => by
    obtain ⟨i, p, b, h1, h2, k, h3, h4, h5⟩ := mem_wrL h.wlen hnw hx
    exact ⟨⟨i, p, b, h1, h2, k, h3, h4⟩, by rw [h5]; exact chunk_len b k⟩) (by omega) hk2
  unfold Pgr.steps
  rw [ht]
  simp only
  obtain ⟨R, hR⟩ : ∃ R, stepW P.D k (wrL P.a t P.wr (idsOf P.wr)) = R := ⟨_, rfl⟩
  rw [hR] at w1 hall ⊢
  obtain ⟨D1, s1, r1⟩ := R
  simp only at w1 hall
  obtain ⟨rfl, rfl⟩ := hall
  have hd1 := decI_eq (s := k - ((wrL P.a t P.wr (idsOf P.wr)).length : Int)) (by omega) (by omega)
  unfold Pgr.steps1
  simp only
  rw [if_neg (by rw [hd1]; omega)]
  have hst2 := w1.sync hstill
  have hsz2 : D1.sync.size = P.D.size := w1.size
  have hvw : ∀ x, ¬ newS P t x → D1.sync.view x = P.D.view x := w1.view
  have hk2' : Mj D1.sync P.a P.num P.last (tellB P.num P.tag P.tb) := h.kp.mj.else hst2 hsz2 (hvw _ fun hx => by have := hS _ hx; omega) (hvw _ fun hx => by have := hS _ hx; omega)
  rw [hk2'.steps hn (tells_len h.kp.n256 n1 htag)]
  have h4 : stepI (decI (k - ((wrL P.a t P.wr (idsOf P.wr)).length : Int))) = 4 := by
    rw [hd1]
    unfold stepI
    rw [if_neg (by omega), if_neg (by omega), if_neg (by omega), if_neg (by omega)]
  unfold Pgr.fin
  simp only [h4, decide_true, if_true]
end
end Go.Proofs.YtildohndbeagaaaGreatDoor
