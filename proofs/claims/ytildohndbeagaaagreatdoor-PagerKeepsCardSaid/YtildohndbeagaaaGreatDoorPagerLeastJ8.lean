/- What the proof of PagerLeast needs, part 8. -/
import Derived.Test.YtildohndbeagaaaGreatDoorPagerLeastJ7

namespace Go.Proofs.YtildohndbeagaaaGreatDoor
open Go
set_option linter.unusedVariables false

/-! ### A disk of which nothing is pending -/
structure Still (D : Dsk) : Prop where
  pend : D.pend = []
  ground : D.ground = D.view
  ng : D.ng = D.nv
  ok : D.Ok
  low : ∀ x, (D.view x).isSome = true → x < D.size
  lim : D.size ≤ D.limit
theorem Still.new {n : Int} (h : 1 ≤ n) (h2 : n ≤ 65536) : Still (Dsk.new n) := ⟨rfl, rfl, rfl, Dsk.Ok.new h h2, fun x h => (by cases h), Int.le_refl _⟩
section
variable {D D' : Dsk} {x : Int} {b : List UInt8}
/-- A disk whose sectors in use are ones that it has is never full. -/
theorem why_low (ok : D.Ok) (low : ∀ x, (D.view x).isSome = true → x < D.size) (lim : D.size ≤ D.limit) (h0 : 0 ≤ x) (h1 : x < D.size) (hb : b.length ≤ 512) : D.why x b = 0 := by
  unfold Dsk.why
  rw [if_neg (by omega), if_neg (by omega), if_neg]
  rintro ⟨hv, hl⟩
  obtain ⟨l, hf, hk⟩ := ok.view
  have hx : x ∉ l.map (·.1) := fun hm => by
    have := (hf.has x).2 hm
    cases hh : D.view x with
    | none => rw [hh] at this; cases this
    | some _ => rw [hh] at hv; cases hv
  have hs := ok.size
  have := nodup_le D.size.toNat (x :: l.map (·.1)) (List.nodup_cons.2 ⟨hx, hf.nodup⟩) fun y hy => by
    rcases List.mem_cons.1 hy with rfl | hy
    · omega
    · have h3 := low y ((hf.has y).2 hy)
      obtain ⟨z, hz, rfl⟩ := List.mem_map.1 hy
      have := (hk z hz).1
      omega
  rw [List.length_cons, List.length_map, hf.len] at this
  omega
theorem Still.why (h : Still D) (h0 : 0 ≤ x) (h1 : x < D.size) (hb : b.length ≤ 512) : D.why x b = 0 := why_low h.ok h.low h.lim h0 h1 hb
theorem write_same (D : Dsk) (x : Int) (b : List UInt8) : (D.write x b).ground = D.ground ∧ (D.write x b).ng = D.ng ∧ (D.write x b).size = D.size ∧ (D.write x b).limit = D.limit := by
  unfold Dsk.write
  split
  · exact ⟨rfl, rfl, rfl, rfl⟩
  · exact ⟨rfl, rfl, rfl, rfl⟩

/-- Since D0 there were writes to sectors of S alone. -/
structure Wrote (D0 D : Dsk) (S : Int → Prop) : Prop where
  ground : D.ground = D0.ground
  ng : D.ng = D0.ng
  size : D.size = D0.size
  limit : D.limit = D0.limit
  pend : ∀ p ∈ D.pend, ∃ x b, p = .wr x b ∧ S x
  view : ∀ x, ¬ S x → D.view x = D0.view x
  ok : D.Ok
  low : ∀ x, (D.view x).isSome = true → x < D.size
variable {D0 : Dsk} {S : Int → Prop}
theorem Wrote.start (h : Still D) (S : Int → Prop) : Wrote D D S := ⟨rfl, rfl, rfl, rfl, by rw [h.pend]; simp, fun _ _ => rfl, h.ok, h.low⟩
theorem Wrote.write (h : Wrote D0 D S) (hx : S x) (hw : D.why x b = 0) : Wrote D0 (D.write x b) S := by
  have hs := write_same D x b
  have h1 := why_zero hw
  have hv : (D.write x b).view = D.view.put x b := by rw [write_view hw, put_view]
  refine ⟨hs.1.trans h.ground, hs.2.1.trans h.ng, hs.2.2.1.trans h.size, hs.2.2.2.trans h.limit, ?_, fun y hy => ?_, h.ok.write _ _, fun y hy => ?_⟩
  · rw [write_view hw]
    intro p hp
    rcases List.mem_append.1 hp with hp | hp
    · exact h.pend p hp
    · simp only [List.mem_singleton] at hp
      exact ⟨x, b, hp, hx⟩
  · rw [hv]
    have : y ≠ x := fun e => hy (by rw [e]; exact hx)
    exact (if_neg this).trans (h.view y hy)
  · rw [hs.2.2.1]
    rw [hv] at hy
    unfold SF.put at hy
    split at hy
    · omega
    · exact h.low y hy
theorem crashF_view (l : List (Int × Int)) : ∀ (ps : List Pnd) (k : Nat) (s : SF × Nat), (∀ p ∈ ps, ∃ x b, p = .wr x b ∧ S x) → ∀ y, ¬ S y → (crashF l k ps s).1 y = s.1 y
  | [], _, _, _, _, _ => rfl
  | p :: ps, k, s, hp, y, hy => by
    obtain ⟨x, b, rfl, hx⟩ := hp p (by simp)
    show (crashF l (k + 1) ps _).1 y = _
    rw [crashF_view l ps (k + 1) _ (fun q hq => hp q (by simp [hq])) y hy]
    cases keptN l k with
    | none => rfl
    | some n => exact if_neg (fun e => hy (by rw [e]; exact hx))
theorem crashF_low (l : List (Int × Int)) {m : Int} : ∀ (ps : List Pnd) (k : Nat) (s : SF × Nat), (∀ p ∈ ps, ∃ x b, p = .wr x b ∧ x < m) → (∀ y, (s.1 y).isSome = true → y < m) → ∀ y, ((crashF l k ps s).1 y).isSome = true → y < m
  | [], _, _, _, h, y, hy => h y hy
  | p :: ps, k, s, hp, h, y, hy => by
    refine crashF_low l ps (k + 1) _ (fun q hq => hp q (by simp [hq])) ?_ y hy
    obtain ⟨x, b, rfl, hx⟩ := hp p (by simp)
    cases keptN l k with
    | none => exact h
    | some n =>
      intro z hz
      show z < m
      have hz : ((s.1.put x _) z).isSome = true := hz
      unfold SF.put at hz
      split at hz
      · omega
      · exact h z hz
/-- A crash amid such writes. -/
theorem Wrote.crash (h : Wrote D0 D S) (h0 : Still D0) (hS : ∀ x, S x → x < D0.size) (l : List (Int × Int)) : Still (D.crash l) ∧ (∀ x, ¬ S x → (D.crash l).view x = D0.view x) ∧ (D.crash l).size = D0.size := by
  have hok := h.ok.crash l
  refine ⟨⟨rfl, rfl, rfl, hok, fun x hx => ?_, ?_⟩, fun x hx => ?_, h.size⟩
  · show x < D.size
    rw [h.size]
    refine crashF_low l D.pend 0 (D.ground, D.ng) (fun p hp => ?_) (fun y hy => ?_) x hx
    · obtain ⟨y, b, e, hy⟩ := h.pend p hp
      exact ⟨y, b, e, hS y hy⟩
    · rw [h.ground, h0.ground] at hy
      exact h0.low y hy
  · show D.size ≤ D.limit
    rw [h.size, h.limit]
    exact h0.lim
  · show (crashF l 0 D.pend (D.ground, D.ng)).1 x = _
    rw [crashF_view l D.pend 0 _ h.pend x hx, h.ground, h0.ground]
theorem Wrote.sync (h : Wrote D0 D S) (h0 : Still D0) : Still D.sync := by
  refine ⟨rfl, rfl, rfl, h.ok.sync, h.low, ?_⟩
  show D.size ≤ D.limit
  rw [h.size, h.limit]
  exact h0.lim
end

/-! ### The meta page's two sectors -/
def twoF (f : SF) (a : Int) : SF := fun x => if x = a ∨ x = a + 1 then f x else none
def setF (f : SF) (x : Int) (v : Option (List UInt8)) : SF := fun y => if y = x then v else f y
theorem twoF_open (f : SF) (a : Int) : mtOpen (twoF f a) a = mtOpen f a := by
  have e0 : twoF f a (a + 0) = f (a + 0) := if_pos (.inl (by omega))
  have e1 : twoF f a (a + 1) = f (a + 1) := if_pos (.inr rfl)
  unfold mtOpen
  simp only [mtStep_eq, e0, e1]
theorem twoF_set {f : SF} {a x : Int} (hx : x = a ∨ x = a + 1) (v : Option (List UInt8)) : twoF (setF f x v) a = setF (twoF f a) x v := by
  funext y
  unfold twoF setF
  by_cases hy : y = x
  · subst hy; rw [if_pos hx, if_pos rfl, if_pos rfl]
  · rw [if_neg hy, if_neg hy]
theorem twoF_same {f g : SF} {a : Int} (h0 : f a = g a) (h1 : f (a + 1) = g (a + 1)) : twoF f a = twoF g a := by
  funext y
  unfold twoF
  split
  · rename_i h
    rcases h with rfl | rfl
    · exact h0
    · exact h1
  · rfl

section
variable {D : Dsk} {a : Int} {num : Nat} {last : Int} {body t : List UInt8}
/-- How the steps of a page's write leave its other sector, behind a crash. -/
theorem dAt_crash (h : Still D) {x : Int} {b : List UInt8} (h0 : 0 ≤ x) (h1 : x < D.size) (hb : b.length ≤ 512) (l : List (Int × Int)) : ∀ i, i ≤ 4 →
    Still ((dAt D x b i).crash l) ∧ ((dAt D x b i).crash l).size = D.size ∧ ∃ v, ((dAt D x b i).crash l).view = setF D.view x v ∧ ((i ≤ 3 ∧ (v = D.view x ∨ v = none)) ∨ (i = 3 ∧ ∃ n, v = some (tornB b [] n)) ∨ (i = 4 ∧ v = some b)) := by
  have same : D.view = setF D.view x (D.view x) := by
    funext y
    unfold setF
    split
    · subst y; rfl
    · rfl
  have hfs := free_same D x
  have hfv := free_view D x
  have lowS : ∀ v y, ((setF D.view x v) y).isSome = true → y < D.size := by
    intro v y hy
    unfold setF at hy
    split at hy
    · omega
    · exact h.low y hy
  have hsz : (D.free x).sync.size = D.size := hfs.2.2.1
  have hlm : (D.free x).sync.limit = D.limit := hfs.2.2.2
  have h2 : Still (D.free x).sync := ⟨rfl, rfl, rfl, (h.ok.free x).sync, fun y hy => by
    have hy : ((D.free x).view y).isSome = true := hy
    rw [hfv] at hy
    rw [hsz]
    exact lowS none y hy, by rw [hsz, hlm]; exact h.lim⟩
  have hw : (D.free x).sync.why x b = 0 := h2.why h0 (by rw [hsz]; exact h1) hb
  have hok := dAt_ok h.ok x b
  intro i hi
  have hc := (hok i).crash l
  match i, hi with
  | 0, _ =>
    have e : ((dAt D x b 0).crash l).view = D.view := by
      show (crashF l 0 D.pend (D.ground, D.ng)).1 = _
      rw [h.pend, h.ground]; rfl
    exact ⟨⟨rfl, rfl, rfl, hc, fun y hy => by rw [e] at hy; exact h.low y hy, h.lim⟩, rfl, _, e.trans same, .inl ⟨by omega, .inl rfl⟩⟩
  | 1, _ =>
    have e : ∃ v, ((dAt D x b 1).crash l).view = setF D.view x v ∧ (v = D.view x ∨ v = none) := by
      show ∃ v, (crashF l 0 (D.free x).pend ((D.free x).ground, (D.free x).ng)).1 = _ ∧ _
      rw [hfs.1, hfs.2.1, h.ground]
      unfold Dsk.free
      split
      · show ∃ v, (crashF l 0 (D.pend ++ [.fr x]) (D.view, D.ng)).1 = _ ∧ _
        rw [h.pend]
        show ∃ v, (match keptN l 0 with | some n => doP (D.view, D.ng) (.fr x) n | none => (D.view, D.ng)).1 = _ ∧ _
        cases keptN l 0 with
        | none => exact ⟨_, same, .inl rfl⟩
        | some n => exact ⟨none, rfl, .inr rfl⟩
      · rw [h.pend]
        exact ⟨_, same, .inl rfl⟩
    obtain ⟨v, hv, hvv⟩ := e
    exact ⟨⟨rfl, rfl, rfl, hc, fun y hy => by rw [hv] at hy; show y < (D.free x).size; rw [hfs.2.2.1]; exact lowS v y hy, by show (D.free x).size ≤ (D.free x).limit; rw [hfs.2.2.1, hfs.2.2.2]; exact h.lim⟩, hfs.2.2.1, v, hv, .inl ⟨by omega, hvv⟩⟩
  | 2, _ =>
    have e : ((dAt D x b 2).crash l).view = setF D.view x none := by
      show (D.free x).view = _
      exact hfv
    exact ⟨⟨rfl, rfl, rfl, hc, fun y hy => by rw [e] at hy; show y < (D.free x).size; rw [hfs.2.2.1]; exact lowS none y hy, by show (D.free x).size ≤ (D.free x).limit; rw [hfs.2.2.1, hfs.2.2.2]; exact h.lim⟩, hfs.2.2.1, none, e, .inl ⟨by omega, .inr rfl⟩⟩
  | 3, _ =>
    have hc' := hc
    rw [show dAt D x b 3 = (D.free x).sync.write x b from rfl, write_view hw] at hc' ⊢
    have e : ∃ v, (((D.free x).sync.put (.wr x b) b.length).crash l).view = setF D.view x v ∧ (v = none ∨ ∃ n, v = some (tornB b [] n)) := by
      show ∃ v, (match keptN l 0 with | some n => doP ((D.free x).view, (D.free x).nv) (.wr x b) n | none => ((D.free x).view, (D.free x).nv)).1 = _ ∧ _
      cases keptN l 0 with
      | none => exact ⟨none, hfv, .inl rfl⟩
      | some n =>
        refine ⟨some (tornB b [] n), ?_, .inr ⟨n, rfl⟩⟩
        show (D.free x).view.put x (tornB b (((D.free x).view x).getD []) n) = _
        rw [hfv]
        have e0 : (D.view.del x) x = none := if_pos rfl
        rw [e0]
        funext y
        unfold SF.put SF.del setF
        by_cases hy : y = x
        · rw [if_pos hy, if_pos hy]; rfl
        · rw [if_neg hy, if_neg hy, if_neg hy]
    obtain ⟨v, hv, hvv⟩ := e
    refine ⟨⟨rfl, rfl, rfl, hc', fun y hy => by rw [hv] at hy; show y < (D.free x).size; rw [hfs.2.2.1]; exact lowS v y hy, by show (D.free x).size ≤ (D.free x).limit; rw [hfs.2.2.1, hfs.2.2.2]; exact h.lim⟩, hfs.2.2.1, v, hv, ?_⟩
    rcases hvv with rfl | hvv
    · exact .inl ⟨by omega, .inr rfl⟩
    · exact .inr (.inl ⟨rfl, hvv⟩)
  | 4, _ =>
    have hc' := hc
    rw [show dAt D x b 4 = ((D.free x).sync.write x b).sync from rfl, write_view hw] at hc' ⊢
    have e : ((((D.free x).sync.put (.wr x b) b.length).sync).crash l).view = setF D.view x (some b) := by
      show ((D.free x).sync.put (.wr x b) b.length).view = _
      rw [put_view]
      show (D.free x).view.put x b = _
      rw [hfv]
      funext y
      unfold SF.put SF.del setF
      by_cases hy : y = x
      · rw [if_pos hy, if_pos hy]
      · rw [if_neg hy, if_neg hy, if_neg hy]
    exact ⟨⟨rfl, rfl, rfl, hc', fun y hy => by rw [e] at hy; show y < (D.free x).size; rw [hfs.2.2.1]; exact lowS _ y hy, by show (D.free x).size ≤ (D.free x).limit; rw [hfs.2.2.1, hfs.2.2.2]; exact h.lim⟩, hfs.2.2.1, some b, e, .inr (.inr ⟨rfl, rfl⟩)⟩
/-- All steps done, no crash. -/
theorem dAt_done (h : Still D) {x : Int} {b : List UInt8} (h0 : 0 ≤ x) (h1 : x < D.size) (hb : b.length ≤ 512) : Still (dAt D x b 4) ∧ (dAt D x b 4).size = D.size ∧ (dAt D x b 4).view = setF D.view x (some b) := by
  obtain ⟨h2, h3, v, h4, h5⟩ := dAt_crash h h0 h1 hb [] 4 (by omega)
  have e : (dAt D x b 4).crash [] = dAt D x b 4 := rfl
  rw [e] at h2 h3 h4
  rcases h5 with h5 | h5 | h5
  · omega
  · omega
  · rw [h5.2] at h4; exact ⟨h2, h3, h4⟩

/-- What a meta page on this disk tells. -/
structure Mj (D : Dsk) (a : Int) (num : Nat) (last : Int) (body : List UInt8) : Prop where
  still : Still D
  mi : Mi (twoF D.view a) a num last body
  a0 : 0 ≤ a
  a1 : a + 1 < D.size
theorem Mj.open (h : Mj D a num last body) : mtOpen D.view a = (num, last, body) := by rw [← twoF_open]; exact h.mi.open
theorem Mj.start {D : Dsk} (h : Still D) (h0 : 0 ≤ a) (h1 : a + 1 < D.size) (hv : D.view a = none) (hv1 : D.view (a + 1) = none) : Mj D a 0 1 [] := by
  refine ⟨h, ?_, h0, h1⟩
  have : twoF D.view a = fun _ => none := by
    funext y
    unfold twoF
    split
    · rename_i e
      rcases e with rfl | rfl
      · exact hv
      · exact hv1
    · rfl
  rw [this]
  exact Mi.start a
theorem Mj.x01 (h : Mj D a num last body) : 0 ≤ a + (1 - last) ∧ a + (1 - last) < D.size ∧ (a + (1 - last) = a ∨ a + (1 - last) = a + 1) := by
  have h1 := h.mi.l01
  have h2 := h.a0
  have h3 := h.a1
  omega
/-- Elsewhere turned alone. -/
theorem Mj.else {D' : Dsk} (h : Mj D a num last body) (h' : Still D') (hs : D'.size = D.size) (h0 : D'.view a = D.view a) (h1 : D'.view (a + 1) = D.view (a + 1)) : Mj D' a num last body :=
  ⟨h', by rw [twoF_same h0 h1]; exact h.mi, h.a0, by rw [hs]; exact h.a1⟩
theorem Mj.crash (h : Mj D a num last body) (hn : num + 1 < U64) (ht : t.length ≤ 480) (l : List (Int × Int)) (i : Nat) (hi : i ≤ 4) :
    ((i ≤ 3 ∧ Mj ((dAt D (a + (1 - last)) (recB (num + 1) t) i).crash l) a num last body) ∨ (3 ≤ i ∧ Mj ((dAt D (a + (1 - last)) (recB (num + 1) t) i).crash l) a (num + 1) (1 - last) t)) ∧
      (∀ y, y ≠ a → y ≠ a + 1 → ((dAt D (a + (1 - last)) (recB (num + 1) t) i).crash l).view y = D.view y) ∧ ((dAt D (a + (1 - last)) (recB (num + 1) t) i).crash l).size = D.size := by
  obtain ⟨hx0, hx1, hx2⟩ := h.x01
  obtain ⟨h2, h3, v, h4, h5⟩ := dAt_crash h.still hx0 hx1 (recB_short hn ht) l i hi
  have e1 : a + 1 < ((dAt D (a + (1 - last)) (recB (num + 1) t) i).crash l).size := by rw [h3]; exact h.a1
  have ev : twoF ((dAt D (a + (1 - last)) (recB (num + 1) t) i).crash l).view a = setF (twoF D.view a) (a + (1 - last)) v := by rw [h4, twoF_set hx2]
  have old : Mi (setF (twoF D.view a) (a + (1 - last)) v) a num last body → Mj ((dAt D (a + (1 - last)) (recB (num + 1) t) i).crash l) a num last body := fun hm => ⟨h2, by rw [ev]; exact hm, h.a0, e1⟩
  have new : Mi (setF (twoF D.view a) (a + (1 - last)) v) a (num + 1) (1 - last) t → Mj ((dAt D (a + (1 - last)) (recB (num + 1) t) i).crash l) a (num + 1) (1 - last) t := fun hm => ⟨h2, by rw [ev]; exact hm, h.a0, e1⟩
  have put : ∀ b, setF (twoF D.view a) (a + (1 - last)) (some b) = (twoF D.view a).put (a + (1 - last)) b := fun b => rfl
  refine ⟨?_, fun y hy0 hy1 => ?_, h3⟩
  · rcases h5 with ⟨hi3, hv⟩ | ⟨rfl, n, rfl⟩ | ⟨rfl, rfl⟩
    · left
      refine ⟨hi3, old ?_⟩
      rcases hv with rfl | rfl
      · have : setF (twoF D.view a) (a + (1 - last)) (D.view (a + (1 - last))) = twoF D.view a := by
          funext y
          unfold setF
          split
          · rename_i e
            rw [e]
            exact (if_pos hx2).symm
          · rfl
        rw [this]
        exact h.mi
      · exact h.mi.del
    · rcases tells_torn hn (Nat.succ_pos num) (by omega) n (t := t) with h6 | h6
      · exact .inl ⟨by omega, old (by rw [put]; exact h.mi.put_none h6)⟩
      · exact .inr ⟨by omega, new (by rw [put, h6]; exact h.mi.put_new (tells_rec hn (Nat.succ_pos num) (by omega)))⟩
    · exact .inr ⟨by omega, new (by rw [put]; exact h.mi.put_new (tells_rec hn (Nat.succ_pos num) (by omega)))⟩
  · rw [h4]
    exact if_neg (by omega)
theorem Mj.done (h : Mj D a num last body) (hn : num + 1 < U64) (ht : t.length ≤ 480) :
    Mj (dAt D (a + (1 - last)) (recB (num + 1) t) 4) a (num + 1) (1 - last) t ∧ (∀ y, y ≠ a → y ≠ a + 1 → (dAt D (a + (1 - last)) (recB (num + 1) t) 4).view y = D.view y) ∧ (dAt D (a + (1 - last)) (recB (num + 1) t) 4).size = D.size := by
  obtain ⟨h1, h2, h3⟩ := h.crash hn ht [] 4 (by omega)
  have e : (dAt D (a + (1 - last)) (recB (num + 1) t) 4).crash [] = dAt D (a + (1 - last)) (recB (num + 1) t) 4 := rfl
  rw [e] at h1 h2 h3
  rcases h1 with h1 | h1
  · omega
  · exact ⟨h1.2, h2, h3⟩
theorem Mj.steps (h : Mj D a num last body) (hn : num + 1 < U64) (ht : t.length ≤ 480) (k : Int) :
    mtSteps D a num last t k = ⟨dAt D (a + (1 - last)) (recB (num + 1) t) (stepI k), if stepI k = 4 then num + 1 else num, if stepI k = 4 then 1 - last else last, decide (stepI k = 4), 0⟩ := by
  obtain ⟨hx0, hx1, hx2⟩ := h.x01
  have hfs := free_same D (a + (1 - last))
  have hw : (D.free (a + (1 - last))).sync.why (a + (1 - last)) (recB (num + 1) t) = 0 := by
    refine why_low (h.still.ok.free _).sync (fun y hy => ?_) ?_ hx0 ?_ (recB_short hn ht)
    · have hy : ((D.free (a + (1 - last))).view y).isSome = true := hy
      rw [free_view] at hy
      show y < (D.free (a + (1 - last))).size
      rw [hfs.2.2.1]
      unfold SF.del at hy
      split at hy
      · cases hy
      · exact h.still.low y hy
    · show (D.free (a + (1 - last))).size ≤ (D.free (a + (1 - last))).limit
      rw [hfs.2.2.1, hfs.2.2.2]
      exact h.still.lim
    · show _ < (D.free (a + (1 - last))).size
      rw [hfs.2.2.1]
      exact hx1
  have e : (num + 1) % U64 = num + 1 := Nat.mod_eq_of_lt hn
  unfold mtSteps
  rw [if_neg (by omega), e]
  unfold stepI
  by_cases h1 : k < 1
  · rw [if_pos h1, if_pos h1]; rfl
  · rw [if_neg h1, if_neg h1]
    by_cases h2 : k < 2
    · rw [if_pos h2, if_pos h2]; rfl
    · rw [if_neg h2, if_neg h2]
      by_cases h3 : k < 3
      · rw [if_pos h3, if_pos h3]; rfl
      · rw [if_neg h3, if_neg h3, if_neg (fun hh => hh hw)]
        by_cases h4 : k < 4
        · rw [if_pos h4, if_pos h4]; rfl
        · rw [if_neg h4, if_neg h4]; rfl
end
end Go.Proofs.YtildohndbeagaaaGreatDoor
