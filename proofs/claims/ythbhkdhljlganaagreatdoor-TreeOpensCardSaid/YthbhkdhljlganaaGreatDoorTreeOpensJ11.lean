/- What the proof of TreeOpens needs, part 11. -/
import Derived.Test.YthbhkdhljlganaaGreatDoorTreeOpensJ1
import Derived.Test.YthbhkdhljlganaaGreatDoorTreeOpensJ2
import Derived.Test.YthbhkdhljlganaaGreatDoorTreeOpensJ3
import Derived.Test.YthbhkdhljlganaaGreatDoorTreeOpensJ10
import Derived.Laws.CopyRow
import Derived.Lib.AppendZeros
import Derived.Lib.Overlaps
import Derived.Shelf.Spec.SlicesInsert
import Derived.Deep.RegionLaw
import Derived.Deep.Cut
import Derived.Deep.DeepCutAuto
import Derived.Laws.Externs
import Derived.ArgAppend
import Derived.Deep.RegionHeld3

namespace Go.Proofs.YthbhkdhljlganaaGreatDoor
open Go
set_option linter.unusedVariables false

/-- What stands at a page, so many levels above the leaves. -/
def extT (pf : PF) : (j : Nat) → Int → Ct j
  | 0, i => ((pf i).getD noPg).2
  | j + 1, i => List.map (fun c : Cel => ((c.1, ((childT c.2).toNat, extT pf j (childT c.2))) : Kid j)) ((pf i).getD noPg).2.2
def hiU (u : Und) : Option Key := if u.open_ then none else some u.to_
def trU (pf : PF) (d : Nat) (u : Und) : Ct (d - u.depth) := extT pf (d - u.depth) u.id
def lvU (pf : PF) (d : Nat) (u : Und) : List (Nat × Nat) := Ct.lvs (d - u.depth) u.id.toNat (trU pf d u)
def idU (pf : PF) (d : Nat) (u : Und) : List (Nat × Pag) := (u.id.toNat, Ct.page (d - u.depth) (trU pf d u)) :: Ct.subs (d - u.depth) (trU pf d u)
/-- A page that was looked at, and all below. -/
structure GoodU (pf : PF) (d : Nat) (u : Und) : Prop where
  dep : u.depth ≤ d
  id0 : 0 ≤ u.id
  wf : Wf (d - u.depth) u.from_ (hiU u) (trU pf d u)
  fl : FlIn ⟨1, 1, 0⟩ (d - u.depth) (trU pf d u)
  n1 : 0 < u.id → 1 ≤ Ct.n (d - u.depth) (trU pf d u)
  n2 : u.id = 0 → rootN (d - u.depth) ≤ Ct.n (d - u.depth) (trU pf d u)
  pgs : ∀ q ∈ idU pf d u, pf (q.1 : Int) = some q.2
theorem childT_rng (v : List UInt8) : childT v = -1 ∨ (1 ≤ childT v ∧ childT v < 90) := by
  unfold childT
  split
  · split
    · exact .inl rfl
    · right; omega
  · exact .inl rfl
/-- The leaves as they were found. -/
def lvsOf (l : List (Int × Pag)) : List (Nat × Nat) := l.map fun x => (x.1.toNat, x.2.2.1)
theorem chkLoop_depth {pf : PF} : ∀ (k : Nat) (todo : List Und) (s s' : ChT), chkLoop pf k todo s = some s' → s.leaves ≠ [] → s'.depth = s.depth ∧ s'.leaves ≠ []
  | _, [], s, s', h, hl => by rw [chkLoop] at h; cases h; exact ⟨rfl, hl⟩
  | 0, _ :: _, s, s', h, hl => by rw [chkLoop] at h; cases h
  | k + 1, u :: todo, s, s', h, hl => by
    rw [chkLoop] at h
    split at h
    · cases h
    · rename_i x hx
      split at h
      · cases h
      · split at h
        · split at h
          · cases h
          · rename_i hd
            have := chkLoop_depth k todo _ s' h (by simp)
            simp only at this
            have hd : s.depth = u.depth := Decidable.byContradiction fun e => hd ⟨hl, e⟩
            exact ⟨this.1.trans hd.symm, this.2⟩
        · have := chkLoop_depth k _ ⟨s.leaves, u.id :: s.seen, s.depth⟩ s' h hl
          exact this
theorem fits_inner {u : Und} {x : Pag} (h : fitsT u x = true) (hx : x.1 = false) : x.2.1 = 0 ∧ (u.id = 0 → 2 ≤ x.2.2.length) ∧ (0 < u.id → 1 ≤ x.2.2.length) ∧ (∀ c ∈ x.2.2, fitCel u false c = true) ∧ (∀ c r, x.2.2 = c :: r → c.1 = u.from_) := by
  unfold fitsT at h
  split at h
  · cases h
  · rename_i hc
    refine ⟨Decidable.byContradiction fun e => hc (.inr (.inr ⟨hx, e⟩)), fun h0 => ?_, fun h0 => ?_, fun c hcm => ?_, fun c r e => ?_⟩
    · rcases Nat.lt_or_ge x.2.2.length 2 with h1 | h1
      · exact absurd (.inr (.inl ⟨hx, h0, h1⟩)) hc
      · exact h1
    · rcases Nat.eq_zero_or_pos x.2.2.length with h1 | h1
      · exact absurd (.inl ⟨h0, List.eq_nil_of_length_eq_zero h1⟩) hc
      · exact h1
    · rw [hx] at h
      split at h
      · rename_i e; rw [e] at hcm; cases hcm
      · rename_i e
        rw [e] at hcm
        simp only [Bool.false_or, Bool.and_eq_true] at h
        exact List.all_eq_true.1 h.2 c hcm
    · rw [hx, e] at h
      simp only [Bool.false_or, Bool.and_eq_true, decide_eq_true_eq] at h
      exact h.1
theorem fits_leaf {u : Und} {x : Pag} (h : fitsT u x = true) (hx : x.1 = true) : (0 < u.id → 1 ≤ x.2.2.length) ∧ ∀ c ∈ x.2.2, inB u.from_ (hiU u) c.1 := by
  unfold fitsT at h
  split at h
  · cases h
  · rename_i hc
    refine ⟨fun h0 => ?_, fun c hcm => ?_⟩
    · rcases Nat.eq_zero_or_pos x.2.2.length with h1 | h1
      · exact absurd (.inl ⟨h0, List.eq_nil_of_length_eq_zero h1⟩) hc
      · exact h1
    · split at h
      · rename_i e; rw [e] at hcm; cases hcm
      · rename_i e
        rw [e] at hcm
        simp only [Bool.and_eq_true] at h
        have := List.all_eq_true.1 h.2 c hcm
        unfold fitCel at this
        simp only [Bool.and_eq_true, Bool.or_eq_true, Bool.not_eq_true'] at this
        refine ⟨less_not.1 this.1.1, fun y hy => ?_⟩
        unfold hiU at hy
        split at hy
        · cases hy
        · rename_i ho
          injection hy with hy
          subst hy
          rcases this.1.2 with h5 | h5
          · exact absurd h5 ho
          · exact less_iff.1 h5
theorem fitCel_inner {u : Und} {c : Cel} (h : fitCel u false c = true) : inB u.from_ (hiU u) c.1 ∧ 0 < childT c.2 ∧ childT c.2 < 90 ∧ varB (childT c.2).toNat = c.2 := by
  unfold fitCel at h
  simp only [Bool.and_eq_true, Bool.or_eq_true, Bool.not_eq_true', Bool.false_or, decide_eq_true_eq] at h
  have := childT_rng c.2
  refine ⟨⟨less_not.1 h.1.1, fun y hy => ?_⟩, by omega, by omega, h.2.2⟩
  unfold hiU at hy
  split at hy
  · cases hy
  · rename_i ho
    injection hy with hy
    subst hy
    rcases h.1.2 with h5 | h5
    · exact absurd h5 ho
    · exact less_iff.1 h5
theorem kidsT_mem {u v : Und} : ∀ {cs : List Cel}, v ∈ kidsT u cs → v.depth = u.depth + 1 ∧ ∃ c ∈ cs, v.id = childT c.2
  | [], h => by cases h
  | [c], h => by
    rw [kidsT] at h
    obtain rfl := List.mem_singleton.1 h
    exact ⟨rfl, c, by simp, rfl⟩
  | c :: d :: r, h => by
    rw [kidsT] at h
    rcases List.mem_cons.1 h with rfl | h
    · exact ⟨rfl, c, by simp, rfl⟩
    · obtain ⟨h1, c', h2, h3⟩ := kidsT_mem h
      exact ⟨h1, c', by simp [h2], h3⟩
theorem kidsT_ne {u : Und} {cs : List Cel} (h : cs ≠ []) : kidsT u cs ≠ [] := by
  rcases cs with _ | ⟨c, _ | ⟨d, r⟩⟩
  · exact absurd rfl h
  · simp [kidsT]
  · simp [kidsT]
/-- The kids, as a list of contents. -/
def kidOf (pf : PF) (j : Nat) (c : Cel) : Kid j := (c.1, ((childT c.2).toNat, extT pf j (childT c.2)))
theorem extT_succ (pf : PF) (j : Nat) (i : Int) {x : Pag} (h : pf i = some x) : extT pf (j + 1) i = (x.2.2.map (kidOf pf j) : List (Kid j)) := by
  show List.map _ ((pf i).getD noPg).2.2 = _
  rw [h]
  rfl
theorem leads_kids {pf : PF} {j : Nat} : ∀ {cs : List Cel}, (∀ c ∈ cs, varB (childT c.2).toNat = c.2) → leads (cs.map (kidOf pf j)) = cs
  | [], _ => rfl
  | c :: cs, h => by
    rw [List.map_cons, leads_cons, leads_kids fun x hx => h x (by simp [hx])]
    have := h c (by simp)
    show (c.1, varB (childT c.2).toNat) :: cs = _
    rw [this]
/-- Good kids make a good page. -/
theorem kids_wf {pf : PF} {d j : Nat} {u : Und} (hd : d - (u.depth + 1) = j) : ∀ {cs : List Cel}, RisesP cs → (∀ c ∈ cs, inB u.from_ (hiU u) c.1) → (∀ v ∈ kidsT u cs, GoodU pf d v) → WfL (Wf j) (cs.map (kidOf pf j)) (hiU u)
  | [], _, _, _ => trivial
  | [c], _, hb, hg => by
    have g := hg ⟨childT c.2, u.depth + 1, c.1, u.to_, u.open_⟩ (by simp [kidsT])
    have w := g.wf
    unfold trU at w
    simp only at w
    rw [hd] at w
    exact ⟨w, (hb c (by simp)).2, trivial⟩
  | c :: e :: r, hr, hb, hg => by
    have g := hg ⟨childT c.2, u.depth + 1, c.1, e.1, false⟩ (by simp [kidsT])
    have w := g.wf
    unfold trU at w
    simp only at w
    rw [hd] at w
    have ih := kids_wf (pf := pf) hd (u := u) (cs := e :: r) (fun i hi => hr (i + 1) (by simp at hi ⊢; omega)) (fun x hx => hb x (by simp [hx])) (fun v hv => hg v (by rw [kidsT]; simp [hv]))
    refine ⟨w, fun y hy => ?_, ih⟩
    injection hy with hy
    subst hy
    have := hr 0 (by simp)
    exact less_iff.1 this
theorem kids_flat {pf : PF} {d j : Nat} {u : Und} (hd : d - (u.depth + 1) = j) : ∀ {cs : List Cel}, (kidsT u cs).flatMap (lvU pf d) = lvsL (cs.map (kidOf pf j)) ∧ (kidsT u cs).flatMap (idU pf d) = subsL (cs.map (kidOf pf j))
  | [] => ⟨rfl, rfl⟩
  | [c] => by
    subst hd
    rw [List.map_cons, lvsL_cons, subsL_cons, kidsT]
    exact ⟨by simp [lvU, trU, kidOf, lvsL], by simp [idU, trU, kidOf, subsL]⟩
  | c :: e :: r => by
    have ih := kids_flat (pf := pf) hd (u := u) (cs := e :: r)
    rw [kidsT, List.map_cons, lvsL_cons, subsL_cons, List.flatMap_cons, List.flatMap_cons, ih.1, ih.2]
    subst hd
    exact ⟨by simp [lvU, trU, kidOf], by simp [idU, trU, kidOf]⟩
theorem kids_fl {pf : PF} {d j : Nat} {u : Und} (hd : d - (u.depth + 1) = j) : ∀ {cs : List Cel}, (∀ v ∈ kidsT u cs, GoodU pf d v ∧ 0 < v.id) → FlL ⟨1, 1, 0⟩ (cs.map (kidOf pf j))
  | [], _ => fun k hk => by cases hk
  | [c], h => by
    have g := h ⟨childT c.2, u.depth + 1, c.1, u.to_, u.open_⟩ (by simp [kidsT])
    have h1 := g.1.fl
    have h2 := g.1.n1 g.2
    unfold trU at h1 h2
    simp only at h1 h2
    rw [hd] at h1 h2
    intro k hk
    obtain rfl := List.mem_singleton.1 hk
    rw [Fl_iff]
    exact ⟨by cases j <;> exact h2, h1⟩
  | c :: e :: r, h => by
    have g := h ⟨childT c.2, u.depth + 1, c.1, e.1, false⟩ (by simp [kidsT])
    have h1 := g.1.fl
    have h2 := g.1.n1 g.2
    unfold trU at h1 h2
    simp only at h1 h2
    rw [hd] at h1 h2
    have ih := kids_fl (pf := pf) hd (u := u) (cs := e :: r) fun v hv => h v (by rw [kidsT]; simp [hv])
    rw [List.map_cons, FlL_cons]
    refine ⟨?_, ih⟩
    rw [Fl_iff]
    exact ⟨by cases j <;> exact h2, h1⟩
/-- WHAT CHECK'S FIRST LOOP HAS LOOKED AT IS IN ORDER. -/
theorem chk_good {pf : PF} (hpf : ∀ i x, pf i = some x → POk x ∧ 0 ≤ i ∧ i < 90) : ∀ (k : Nat) (us todo : List Und) (s s' : ChT), chkLoop pf k (us ++ todo) s = some s' → (us = [] ∨ s'.leaves ≠ []) →
    ∃ k1 s1, chkLoop pf k1 todo s1 = some s' ∧ (∀ u ∈ us, GoodU pf s'.depth u) ∧ lvsOf s1.leaves = lvsOf s.leaves ++ us.flatMap (lvU pf s'.depth) ∧ (s1.seen.Perm ((us.flatMap (idU pf s'.depth)).map (fun q => (q.1 : Int)) ++ s.seen)) ∧ (s.seen.Nodup → s1.seen.Nodup) := by
  intro k
  induction k with
  | zero =>
    intro us todo s s' h _
    cases us with
    | nil => exact ⟨0, s, h, (fun u hu => by cases hu), by simp, by simp, id⟩
    | cons u us => rw [List.cons_append, chkLoop] at h; cases h
  | succ k ih =>
    intro us todo s s' h hne
    cases us with
    | nil => exact ⟨k + 1, s, h, (fun u hu => by cases hu), by simp, by simp, id⟩
    | cons u us =>
      have hne : s'.leaves ≠ [] := hne.resolve_left (by simp)
      rw [List.cons_append, chkLoop] at h
      split at h
      · cases h
      · rename_i x hx
        obtain ⟨okx, hi0, hi9⟩ := hpf _ _ hx
        split at h
        · cases h
        · rename_i hsf
          simp only [Bool.or_eq_true, Bool.not_eq_true', not_or, Bool.not_eq_true, Bool.not_eq_false] at hsf
          obtain ⟨hns, hfit⟩ := hsf
          have hns : u.id ∉ s.seen := by simpa using hns
          split at h
          · rename_i hleaf
            split at h
            · cases h
            · have hdep := (chkLoop_depth k _ _ s' h (by simp)).1
              simp only at hdep
              obtain ⟨k1, s1, g1, g2, g3, g4, g5⟩ := ih us todo _ s' h (.inr hne)
              have hl := fits_leaf hfit hleaf
              have e0 : s'.depth - u.depth = 0 := by omega
              have et : ∀ j, j = 0 → Ct.page j (extT pf j u.id) = x ∧ Ct.subs j (extT pf j u.id) = [] ∧ Ct.lvs j u.id.toNat (extT pf j u.id) = [(u.id.toNat, x.2.1)] ∧ FlIn ⟨1, 1, 0⟩ j (extT pf j u.id) ∧ Ct.n j (extT pf j u.id) = x.2.2.length ∧ Wf j u.from_ (hiU u) (extT pf j u.id) ∧ rootN j = 0 := by
                rintro j rfl
                have e1 : extT pf 0 u.id = x.2 := by show ((pf u.id).getD noPg).2 = _; rw [hx]; rfl
                refine ⟨?_, rfl, ?_, trivial, ?_, ?_, rfl⟩
                · rw [e1]; show (true, x.2.1, x.2.2) = x; rw [← hleaf]
                · rw [e1]; rfl
                · rw [e1]; rfl
                · rw [e1]; exact ⟨okx.asc, hl.2⟩
              obtain ⟨t1, t2, t3, t4, t5, t6, t7⟩ := et _ e0
              have hcast : ((u.id.toNat : Nat) : Int) = u.id := by omega
              have hid : idU pf s'.depth u = [(u.id.toNat, x)] := by unfold idU trU; rw [t1, t2]
              refine ⟨k1, s1, g1, fun v hv => ?_, ?_, ?_, fun hn => g5 (List.nodup_cons.2 ⟨hns, hn⟩)⟩
              · rcases List.mem_cons.1 hv with rfl | hv
                · refine ⟨by omega, hi0, t6, t4, fun h0 => by unfold trU; rw [t5]; exact hl.1 h0, fun _ => by rw [t7]; exact Nat.zero_le _, fun q hq => ?_⟩
                  rw [hid] at hq
                  obtain rfl := List.mem_singleton.1 hq
                  rw [hcast]
                  exact hx
                · exact g2 v hv
              · rw [g3]
                simp only [lvsOf, List.map_append, List.map_cons, List.map_nil, List.flatMap_cons, List.append_assoc]
                have : lvU pf s'.depth u = [(u.id.toNat, x.2.1)] := t3
                rw [this]
              · refine g4.trans ?_
                rw [List.flatMap_cons, hid]
                simp only [List.map_cons, List.cons_append, List.nil_append, hcast]
                exact List.perm_middle
          · rename_i hleaf
            have hleaf : x.1 = false := by simpa using hleaf
            have hin := fits_inner hfit hleaf
            rw [← List.append_assoc] at h
            obtain ⟨k1, s1, g1, g2, g3, g4, g5⟩ := ih (kidsT u x.2.2 ++ us) todo _ s' h (.inr hne)
            have hcs : x.2.2 ≠ [] := fun e => by
              rcases Int.lt_or_eq_of_le hi0 with h0 | h0
              · have := hin.2.2.1 h0; rw [e] at this; simp at this
              · have := hin.2.1 h0.symm; rw [e] at this; simp at this
            have hkd : u.depth + 1 ≤ s'.depth := by
              obtain ⟨v, hv⟩ := List.exists_mem_of_ne_nil _ (kidsT_ne (u := u) hcs)
              have h1 := (g2 v (List.mem_append_left _ hv)).dep
              have h2 := (kidsT_mem hv).1
              omega
            obtain ⟨j, hj⟩ : ∃ j, s'.depth - (u.depth + 1) = j := ⟨_, rfl⟩
            have e0 : s'.depth - u.depth = j + 1 := by omega
            have hkids : ∀ v ∈ kidsT u x.2.2, GoodU pf s'.depth v ∧ 0 < v.id := fun v hv => by
              refine ⟨g2 v (List.mem_append_left _ hv), ?_⟩
              obtain ⟨_, c, hc, e⟩ := kidsT_mem hv
              rw [e]
              exact (fitCel_inner (hin.2.2.2.1 c hc)).2.1
            have hwL := kids_wf (pf := pf) hj (chk_rises none _ okx.parts.2.1) (fun c hc => (fitCel_inner (hin.2.2.2.1 c hc)).1) (fun v hv => (hkids v hv).1)
            have hfl := kids_fl hj hkids
            have hfm := kids_flat (pf := pf) hj (u := u) (cs := x.2.2)
            have hleads := leads_kids (pf := pf) (j := j) (cs := x.2.2) fun c hc => (fitCel_inner (hin.2.2.2.1 c hc)).2.2.2
            have et : ∀ i, i = j + 1 → Ct.page i (extT pf i u.id) = x ∧ Ct.subs i (extT pf i u.id) = (kidsT u x.2.2).flatMap (idU pf s'.depth) ∧ Ct.lvs i u.id.toNat (extT pf i u.id) = (kidsT u x.2.2).flatMap (lvU pf s'.depth) ∧ FlIn ⟨1, 1, 0⟩ i (extT pf i u.id) ∧ Ct.n i (extT pf i u.id) = x.2.2.length ∧ Wf i u.from_ (hiU u) (extT pf i u.id) ∧ rootN i = 2 := by
              rintro i rfl
              rw [extT_succ pf j u.id hx, hfm.1, hfm.2]
              refine ⟨?_, rfl, rfl, hfl, ?_, ⟨?_, hwL⟩, rfl⟩
              · show (false, 0, leads (x.2.2.map (kidOf pf j))) = x
                rw [hleads, ← hin.1, ← hleaf]
              · show (x.2.2.map (kidOf pf j)).length = _
                rw [List.length_map]
              · obtain ⟨c, r, hcr⟩ := List.exists_cons_of_ne_nil hcs
                rw [hcr]
                show some c.1 = _
                rw [hin.2.2.2.2 c r hcr]
            obtain ⟨t1, t2, t3, t4, t5, t6, t7⟩ := et _ e0
            have hcast : ((u.id.toNat : Nat) : Int) = u.id := by omega
            have hid : idU pf s'.depth u = (u.id.toNat, x) :: (kidsT u x.2.2).flatMap (idU pf s'.depth) := by unfold idU trU; rw [t1, t2]; rfl
            refine ⟨k1, s1, g1, fun v hv => ?_, ?_, ?_, fun hn => g5 (List.nodup_cons.2 ⟨hns, hn⟩)⟩
            · rcases List.mem_cons.1 hv with rfl | hv
              · refine ⟨by omega, hi0, t6, t4, fun h0 => by unfold trU; rw [t5]; exact hin.2.2.1 h0, fun h0 => by unfold trU; rw [t5, t7]; exact hin.2.1 h0, fun q hq => ?_⟩
                rw [hid] at hq
                rcases List.mem_cons.1 hq with rfl | hq
                · rw [hcast]; exact hx
                · obtain ⟨w, hw, hq⟩ := List.mem_flatMap.1 hq
                  exact (g2 w (List.mem_append_left _ hw)).pgs q hq
              · exact g2 v (List.mem_append_right _ hv)
            · rw [g3]
              have : lvU pf s'.depth u = (kidsT u x.2.2).flatMap (lvU pf s'.depth) := t3
              rw [List.flatMap_append, List.flatMap_cons, this]
            · refine g4.trans ?_
              rw [List.flatMap_cons, hid, List.flatMap_append]
              simp only [List.map_append, List.map_cons, List.cons_append, hcast, List.append_assoc]
              refine List.Perm.trans ?_ (List.perm_middle (l₁ := [])).symm
              simp only [List.nil_append]
              refine perm_of_count fun a => ?_
              simp only [List.count_cons, List.count_append]
              omega
theorem chained_to : ∀ (l : List (Int × Pag)), (∀ x ∈ l, 0 ≤ x.1) → (chained l = true ↔ ChTo (lvsOf l) 0)
  | [], _ => by simp [chained, lvsOf, ChTo]
  | [(i, x)], _ => by simp [chained, lvsOf, ChTo, headI]
  | (i, x) :: (k, y) :: r, h => by
    have ih := chained_to ((k, y) :: r) fun z hz => h z (by simp [hz])
    have hk : 0 ≤ k := h (k, y) (by simp)
    rw [chained, Bool.and_eq_true, ih, decide_eq_true_eq]
    show ((x.2.1 : Int) = k ∧ ChTo (lvsOf ((k, y) :: r)) 0) ↔ (x.2.1 = k.toNat ∧ ChTo (lvsOf ((k, y) :: r)) 0)
    constructor
    · rintro ⟨a, b⟩; exact ⟨by omega, b⟩
    · rintro ⟨a, b⟩; exact ⟨by omega, b⟩
theorem ChTo_mem : ∀ {l : List (Nat × Nat)} {e : Nat}, ChTo l e → ∀ x ∈ l, x.2 = e ∨ ∃ y ∈ l, x.2 = y.1
  | [], _, _, x, hx => by cases hx
  | a :: l, e, h, x, hx => by
    rcases List.mem_cons.1 hx with rfl | hx
    · cases l with
      | nil => exact .inl h.1
      | cons b l => exact .inr ⟨b, by simp, h.1⟩
    · rcases ChTo_mem h.2 x hx with h1 | ⟨y, hy, h1⟩
      · exact .inl h1
      · exact .inr ⟨y, by simp [hy], h1⟩
/-- The leaves' numbers are numbers of pages; a leaf's next page is a page's. -/
theorem lvs_pages : ∀ (j i : Nat) (t : Ct j), (∀ x ∈ Ct.lvs j i t, ∃ p, (x.1, p) ∈ (i, Ct.page j t) :: Ct.subs j t) ∧ ∀ q ∈ (i, Ct.page j t) :: Ct.subs j t, q.2.2.1 = 0 ∨ ∃ x ∈ Ct.lvs j i t, x.2 = q.2.2.1
  | 0, i, t => ⟨fun x hx => by obtain rfl := List.mem_singleton.1 hx; exact ⟨Ct.page 0 t, by simp⟩, fun q hq => by
    obtain rfl := List.mem_singleton.1 (show q ∈ [(i, Ct.page 0 t)] from hq)
    exact .inr ⟨(i, t.1), by simp [Ct.lvs], rfl⟩⟩
  | j + 1, i, ks => by
    have ih := fun (k : Kid j) => lvs_pages j k.2.1 k.2.2
    refine ⟨fun x hx => ?_, fun q hq => ?_⟩
    · obtain ⟨k, hk, hx⟩ := List.mem_flatMap.1 (show x ∈ List.flatMap (fun k : Kid j => Ct.lvs j k.2.1 k.2.2) ks from hx)
      obtain ⟨p, hp⟩ := (ih k).1 x hx
      exact ⟨p, List.mem_cons_of_mem _ (List.mem_flatMap.2 ⟨k, hk, hp⟩)⟩
    · rcases List.mem_cons.1 hq with rfl | hq
      · exact .inl rfl
      · obtain ⟨k, hk, hq⟩ := List.mem_flatMap.1 (show q ∈ List.flatMap (fun k : Kid j => (k.2.1, Ct.page j k.2.2) :: Ct.subs j k.2.2) ks from hq)
        rcases (ih k).2 q hq with h | ⟨x, hx, h⟩
        · exact .inl h
        · exact .inr ⟨x, List.mem_flatMap.2 ⟨k, hk, hx⟩, h⟩
theorem chk_leaves {pf : PF} (hpf : ∀ i x, pf i = some x → POk x ∧ 0 ≤ i ∧ i < 90) : ∀ (k : Nat) (u : Und) (todo : List Und) (s s' : ChT), chkLoop pf k (u :: todo) s = some s' → s'.leaves ≠ []
  | 0, u, todo, s, s', h => by rw [chkLoop] at h; cases h
  | k + 1, u, todo, s, s', h => by
    rw [chkLoop] at h
    split at h
    · cases h
    · rename_i x hx
      obtain ⟨okx, hi0, hi9⟩ := hpf _ _ hx
      split at h
      · cases h
      · rename_i hsf
        simp only [Bool.or_eq_true, Bool.not_eq_true', not_or, Bool.not_eq_true, Bool.not_eq_false] at hsf
        split at h
        · split at h
          · cases h
          · exact (chkLoop_depth k _ _ s' h (by simp)).2
        · rename_i hleaf
          have hin := fits_inner hsf.2 (by simpa using hleaf)
          have hcs : x.2.2 ≠ [] := fun e => by
            rcases Int.lt_or_eq_of_le hi0 with h0 | h0
            · have := hin.2.2.1 h0; rw [e] at this; simp at this
            · have := hin.2.1 h0.symm; rw [e] at this; simp at this
          obtain ⟨v, r, hv⟩ := List.exists_cons_of_ne_nil (kidsT_ne (u := u) hcs)
          rw [hv, List.cons_append] at h
          exact chk_leaves hpf k v _ _ s' h
theorem chk_leaf0 {pf : PF} (hpf : ∀ i x, pf i = some x → POk x ∧ 0 ≤ i ∧ i < 90) : ∀ (k : Nat) (todo : List Und) (s s' : ChT), chkLoop pf k todo s = some s' → (∀ x ∈ s.leaves, 0 ≤ x.1) → ∀ x ∈ s'.leaves, 0 ≤ x.1
  | _, [], s, s', h, hl => by rw [chkLoop] at h; cases h; exact hl
  | 0, _ :: _, s, s', h, hl => by rw [chkLoop] at h; cases h
  | k + 1, u :: todo, s, s', h, hl => by
    rw [chkLoop] at h
    split at h
    · cases h
    · rename_i x hx
      split at h
      · cases h
      · split at h
        · split at h
          · cases h
          · refine chk_leaf0 hpf k todo _ s' h fun y hy => ?_
            rcases List.mem_append.1 hy with hy | hy
            · exact hl y hy
            · obtain rfl := List.mem_singleton.1 hy
              exact (hpf _ _ hx).2.1
        · exact chk_leaf0 hpf k _ _ s' h hl
theorem FlIn.same {Q Q' : Prm} (ha : Q.a = Q'.a) (hm : Q.m = Q'.m) : ∀ {j : Nat} {c : Ct j}, FlIn Q j c → FlIn Q' j c
  | 0, _, _ => trivial
  | j + 1, c, h => fun k hk => by
    have h1 := h k hk
    rw [Fl_iff] at h1 ⊢
    refine ⟨?_, FlIn.same ha hm h1.2⟩
    cases j with
    | zero => have := h1.1; simp only [minN] at this ⊢; omega
    | succ j => have := h1.1; simp only [minN] at this ⊢; omega
/-- WHERE CHECK SAYS YES THERE IS A TREE. -/
theorem tree_of_chk {P : Pgr} {c : Int → List UInt8} (hhas : ∀ i, P.has i = (P.pg c i).isSome) (hpf : ∀ i x, P.pg c i = some x → POk x ∧ 0 ≤ i ∧ i < 90) (h : chkT (P.pg c) P.pages.length = true) : ∃ D t, Tree ⟨1, 1, 480⟩ P c D t := by
  unfold chkT at h
  split at h
  · cases h
  · rename_i s' hs
    rw [Bool.and_eq_true, decide_eq_true_eq] at h
    obtain ⟨hch, hlen⟩ := h
    have hne : s'.leaves ≠ [] := chk_leaves hpf 91 _ _ _ _ hs
    obtain ⟨k1, s1, g1, g2, g3, g4, g5⟩ := chk_good hpf 91 [und0] [] ⟨[], [], 0⟩ s' hs (.inr hne)
    obtain rfl : s1 = s' := by
      cases k1 <;> (rw [chkLoop] at g1; exact Option.some.inj g1)
    have g := g2 und0 (by simp)
    obtain ⟨d1, d2, d3, d4, d5, d6, d7⟩ := g
    have hl : allP s1.depth (trU (P.pg c) s1.depth und0) = idU (P.pg c) s1.depth und0 := rfl
    have hnd := g5 List.nodup_nil
    have hperm : s1.seen.Perm ((allP s1.depth (trU (P.pg c) s1.depth und0)).map fun q => (q.1 : Int)) := by
      rw [hl]
      simpa using g4
    have hget : ∀ q ∈ allP s1.depth (trU (P.pg c) s1.depth und0), P.pg c (q.1 : Int) = some q.2 := fun q hq => d7 q hq
    have hnd2 : ((allP s1.depth (trU (P.pg c) s1.depth und0)).map (·.1)).Nodup := by
      have h1 := hperm.nodup hnd
      rw [List.Nodup, List.pairwise_map] at h1 ⊢
      exact h1.imp fun h e => h (by rw [e])
    have hpm : ∀ i : Nat, i ∈ P.pages ↔ (P.pg c (i : Int)).isSome = true ∧ i < 90 := fun i => by
      unfold Pgr.pages
      rw [List.mem_filter, List.mem_range, hhas]
      exact and_comm
    have hsub : s1.seen ⊆ P.pages.map fun i : Nat => (i : Int) := fun i hi => by
      obtain ⟨q, hq, rfl⟩ := List.mem_map.1 (hperm.mem_iff.1 hi)
      have h1 := hget q hq
      exact List.mem_map.2 ⟨q.1, (hpm _).2 ⟨by rw [h1]; rfl, by have := (hpf _ _ h1).2.2; omega⟩, rfl⟩
    have hall : ∀ i : Nat, i ∈ P.pages → (i : Int) ∈ s1.seen := fun i hi => by
      refine Decidable.byContradiction fun hn => ?_
      have := List.Nodup.length_le_of_subset (List.nodup_cons.2 ⟨hn, hnd⟩) (l₂ := P.pages.map fun i : Nat => (i : Int)) fun y hy => by
        rcases List.mem_cons.1 hy with rfl | hy
        · exact List.mem_map.2 ⟨i, hi, rfl⟩
        · exact hsub hy
      rw [List.length_cons, List.length_map] at this
      omega
    have hchn : ChTo (Ct.lvs s1.depth 0 (trU (P.pg c) s1.depth und0)) 0 := by
      have h1 : ∀ x ∈ s1.leaves, 0 ≤ x.1 := chk_leaf0 hpf 91 _ _ _ hs fun x hx => by cases hx
      have h2 := (chained_to s1.leaves h1).1 hch
      rw [g3] at h2
      have h3 : ChTo (lvU (P.pg c) s1.depth und0) 0 := by simpa [lvsOf] using h2
      exact h3
    refine ⟨s1.depth, trU (P.pg c) s1.depth und0, ⟨⟨?_, hnd2, ?_⟩, hhas⟩, d3, ?_, hchn, FlIn.same (Q := ⟨1, 1, 0⟩) (Q' := ⟨1, 1, 480⟩) rfl rfl d4, d6 rfl⟩
    · intro i p
      constructor
      · intro hp
        obtain ⟨h1, h2, h3⟩ := hpf _ _ hp
        have h4 := hall i.toNat ((hpm _).2 ⟨by rw [show ((i.toNat : Nat) : Int) = i by omega, hp]; rfl, by omega⟩)
        obtain ⟨q, hq, e⟩ := List.mem_map.1 (hperm.mem_iff.1 h4)
        refine ⟨q.1, by omega, ?_⟩
        have h5 := hget q hq
        rw [show (q.1 : Int) = i by omega, hp] at h5
        injection h5 with h5
        rw [h5]
        exact hq
      · rintro ⟨n, rfl, hm⟩
        exact hget _ hm
    · intro q hq
      have := (hpf _ _ (hget q hq)).2.2
      omega
    · intro q hq
      have h1 := (hpf _ _ (hget q hq)).1
      refine ⟨h1, ?_, fun x hx => by have := chk_small none _ h1.parts.2.1 x hx; show x.1.length ≤ 480; omega⟩
      have h2 := lvs_pages s1.depth 0 (trU (P.pg c) s1.depth und0)
      rcases h2.2 q hq with h3 | ⟨x, hx, h3⟩
      · omega
      · rcases ChTo_mem hchn x hx with h4 | ⟨y, hy, h4⟩
        · omega
        · obtain ⟨p, hp⟩ := h2.1 y hy
          have := (hpf _ _ (hget _ hp)).2.2
          simp only at this
          omega

/-! ### A tree is found to be one -/
def lvP : (j : Nat) → Nat → Ct j → List (Int × Pag)
  | 0, i, t => [((i : Int), Ct.page 0 t)]
  | j + 1, _, ks => List.flatMap (fun k : Kid j => lvP j k.2.1 k.2.2) ks
theorem lvP_lvs : ∀ (j i : Nat) (t : Ct j), lvsOf (lvP j i t) = Ct.lvs j i t
  | 0, i, t => by simp [lvsOf, lvP, Ct.lvs, Ct.page]
  | j + 1, i, ks => by
    have ih := fun (k : Kid j) => lvP_lvs j k.2.1 k.2.2
    show List.map _ (List.flatMap (fun k : Kid j => lvP j k.2.1 k.2.2) ks) = List.flatMap (fun k : Kid j => Ct.lvs j k.2.1 k.2.2) ks
    rw [List.map_flatMap]
    congr 1
    funext k
    exact ih k
theorem lvP_pos : ∀ (j i : Nat) (t : Ct j), ∀ x ∈ lvP j i t, 0 ≤ x.1
  | 0, i, t, x, hx => by obtain rfl := List.mem_singleton.1 hx; simp
  | j + 1, i, ks, x, hx => by
    obtain ⟨k, hk, hx⟩ := List.mem_flatMap.1 (show x ∈ List.flatMap (fun k : Kid j => lvP j k.2.1 k.2.2) ks from hx)
    exact lvP_pos j k.2.1 k.2.2 x hx
theorem inB_fit {u : Und} {k : Key} (h : inB u.from_ (hiU u) k) : (!(Op.bytesLess k u.from_) && (u.open_ || Op.bytesLess k u.to_)) = true := by
  rw [Bool.and_eq_true, Bool.not_eq_true', Bool.or_eq_true]
  refine ⟨less_not.2 h.1, ?_⟩
  cases ho : u.open_ with
  | true => exact .inl rfl
  | false =>
    refine .inr (less_iff.2 (h.2 u.to_ ?_))
    unfold hiU
    rw [ho]; rfl
theorem fits_ok {u : Und} {j : Nat} {t : Ct j} (hw : Wf j u.from_ (hiU u) t) (h1 : 0 < u.id → 1 ≤ Ct.n j t) (h2 : u.id = 0 → rootN j ≤ Ct.n j t) (h0 : 0 ≤ u.id) (hp : ∀ q ∈ Ct.subs j t, 0 < q.1 ∧ q.1 < 90) : fitsT u (Ct.page j t) = true := by
  have hn := Ct.n_page j t
  have hk := hw.keys.2
  unfold fitsT
  rw [if_neg]
  · split
    · rfl
    · rename_i c r e
      rw [← e, Bool.and_eq_true]
      refine ⟨?_, List.all_eq_true.2 fun x hx => ?_⟩
      · cases j with
        | zero => rfl
        | succ j =>
          obtain ⟨k, r', rfl, hkf⟩ := Wf.first hw
          have e : leads (k :: r') = c :: r := e
          rw [leads_cons] at e
          injection e with e1 e2
          subst e1
          simp [Ct.page, hkf]
      · unfold fitCel
        rw [Bool.and_eq_true]
        refine ⟨inB_fit (hk x hx), ?_⟩
        cases j with
        | zero => rfl
        | succ j =>
          obtain ⟨k, hkm, rfl⟩ := List.mem_map.1 (show x ∈ leads (j := j) t from hx)
          have := hp (k.2.1, Ct.page j k.2.2) (kid_in (ks := t) hkm)
          have hc := childT_varB this.1 this.2
          simp only at hc
          rw [hc]
          simp [Ct.page]
  · rintro (⟨h3, h4⟩ | ⟨h3, h4, h5⟩ | ⟨h3, h4⟩)
    · have := h1 h3
      rw [h4] at hn
      simp at hn
      omega
    · have := h2 h4
      cases j with
      | zero => cases h3
      | succ j => simp only [rootN] at this; omega
    · cases j with
      | zero => cases h3
      | succ j => exact h4 rfl
/-- Going through a page and all below. -/
theorem chk_run {pf : PF} : ∀ (j : Nat) (t : Ct j) (u : Und) (i : Nat), u.id = (i : Int) → Wf j u.from_ (hiU u) t → (0 < u.id → 1 ≤ Ct.n j t) → (u.id = 0 → rootN j ≤ Ct.n j t) → FlIn ⟨1, 1, 0⟩ j t → (∀ q ∈ Ct.subs j t, 0 < q.1 ∧ q.1 < 90) →
    (∀ q ∈ (i, Ct.page j t) :: Ct.subs j t, pf (q.1 : Int) = some q.2) → ∀ (k : Nat) (todo : List Und) (s : ChT), (((i, Ct.page j t) :: Ct.subs j t).map (fun q => (q.1 : Int)) ++ s.seen).Nodup → (s.leaves = [] ∨ s.depth = u.depth + j) →
    ∃ s1, chkLoop pf (k + (1 + (Ct.subs j t).length)) (u :: todo) s = chkLoop pf k todo s1 ∧ s1.leaves = s.leaves ++ lvP j i t ∧ s1.depth = u.depth + j ∧ s1.leaves ≠ [] ∧ s1.seen.Perm (((i, Ct.page j t) :: Ct.subs j t).map (fun q => (q.1 : Int)) ++ s.seen)
  | 0, t, u, i, hi, hw, h1, h2, hf, hp, hpg, k, todo, s, hnd, hdep => by
    have hx : pf u.id = some (Ct.page 0 t) := by rw [hi]; exact hpg (i, Ct.page 0 t) (by simp)
    have hns : s.seen.contains u.id = false := by
      rw [List.map_cons, List.cons_append, List.nodup_cons] at hnd
      have := hnd.1
      simp only [List.mem_append, not_or] at this
      rw [hi]
      simpa using this.2
    have hfit := fits_ok hw h1 h2 (by omega) hp
    refine ⟨⟨s.leaves ++ [(u.id, Ct.page 0 t)], u.id :: s.seen, u.depth⟩, ?_, by rw [hi]; rfl, rfl, by simp, by rw [hi]; exact List.Perm.refl _⟩
    show chkLoop pf (k + 1) (u :: todo) s = _
    rw [chkLoop, hx]
    simp only
    rw [hns, hfit]
    simp only [Bool.not_true, Bool.or_self, Bool.false_eq_true, if_false]
    rw [if_pos (show (Ct.page 0 t).1 = true from rfl), if_neg]
    rintro ⟨h3, h4⟩
    rcases hdep with h5 | h5
    · exact h3 h5
    · exact h4 (by simpa using h5)
  | j + 1, ks, u, i, hi, hw, h1, h2, hf, hp, hpg, k, todo, s, hnd, hdep => by
    have hx : pf u.id = some (Ct.page (j + 1) ks) := by rw [hi]; exact hpg (i, Ct.page (j + 1) ks) (by simp)
    have hns : s.seen.contains u.id = false := by
      rw [List.map_cons, List.cons_append, List.nodup_cons] at hnd
      have := hnd.1
      simp only [List.mem_append, not_or] at this
      rw [hi]
      simpa using this.2
    have hfit := fits_ok hw h1 h2 (by omega) hp
    have e1 : chkLoop pf (k + (1 + (Ct.subs (j + 1) ks).length)) (u :: todo) s = chkLoop pf (k + (subsL (j := j) ks).length) (kidsT u (leads (j := j) ks) ++ todo) ⟨s.leaves, u.id :: s.seen, s.depth⟩ := by
      show chkLoop pf (k + (1 + (subsL (j := j) ks).length)) (u :: todo) s = _
      rw [show k + (1 + (subsL (j := j) ks).length) = (k + (subsL (j := j) ks).length) + 1 by omega, chkLoop, hx]
      simp only
      rw [hns, hfit]
      simp only [Bool.not_true, Bool.or_self, Bool.false_eq_true, if_false]
      rw [if_neg (show ¬ (Ct.page (j + 1) ks).1 = true from fun h => by cases h)]
      rfl
    rw [e1]
    obtain ⟨hw1, hw2⟩ := hw
    -- the kids, one behind the other
    have key : ∀ (l : List (Kid j)), WfL (Wf j) l (hiU u) → FlL ⟨1, 1, 0⟩ l → (∀ q ∈ subsL l, 0 < q.1 ∧ q.1 < 90) → (∀ q ∈ subsL l, pf (q.1 : Int) = some q.2) → ∀ (s : ChT), ((subsL l).map (fun q => (q.1 : Int)) ++ s.seen).Nodup → (s.leaves = [] ∨ s.depth = u.depth + (j + 1)) →
        ∃ s1, chkLoop pf (k + (subsL l).length) (kidsT u (leads l) ++ todo) s = chkLoop pf k todo s1 ∧ s1.leaves = s.leaves ++ List.flatMap (fun k : Kid j => lvP j k.2.1 k.2.2) l ∧ (s1.leaves = [] ∨ s1.depth = u.depth + (j + 1)) ∧ (l ≠ [] → s1.leaves ≠ []) ∧ s1.seen.Perm ((subsL l).map (fun q => (q.1 : Int)) ++ s.seen) := by
      intro l
      induction l with
      | nil => intro _ _ _ _ s _ hd; exact ⟨s, rfl, by simp, hd, fun h => absurd rfl h, by simp [subsL]⟩
      | cons a l il =>
        intro hwl hfl hpl hpgl s hnd hd
        obtain ⟨b1, b2, b3⟩ := hwl
        obtain ⟨ka, ia, ta⟩ := a
        have hfa := (Fl_iff _ j ta).1 (FlL_cons.1 hfl).1
        have hsa : subsL ((ka, (ia, ta)) :: l) = (ia, Ct.page j ta) :: Ct.subs j ta ++ subsL l := subsL_cons l (ka, (ia, ta))
        rw [hsa] at hpl hpgl hnd ⊢
        have hia := hpl (ia, Ct.page j ta) (by simp)
        obtain ⟨v, vs, hv1, hv2, hv3, hv4, hv5, hv6⟩ : ∃ v vs, kidsT u (leads ((ka, (ia, ta)) :: l)) = v :: vs ∧ vs = kidsT u (leads l) ∧ v.id = (ia : Int) ∧ v.depth = u.depth + 1 ∧ v.from_ = ka ∧ hiU v = nextK l (hiU u) := by
          have hc := childT_varB hia.1 hia.2
          cases l with
          | nil => exact ⟨_, _, rfl, rfl, hc, rfl, rfl, rfl⟩
          | cons b l => exact ⟨_, _, rfl, rfl, hc, rfl, rfl, rfl⟩
        have hn1 : 1 ≤ Ct.n j ta := by
          have := hfa.1
          cases j with
          | zero => exact this
          | succ j => exact this
        obtain ⟨s1, r1, r2, r3, r4, r5⟩ := chk_run j ta v ia hv3 (by rw [hv5, hv6]; exact b1) (fun _ => hn1) (fun h0 => by have h3 := hia.1; rw [hv3] at h0; simp only at h3; omega) hfa.2 (fun q hq => hpl q (by simp [hq])) (fun q hq => hpgl q (List.mem_append_left _ hq)) (k + (subsL l).length) (vs ++ todo) s
          (by
            refine List.Nodup.sublist ?_ hnd
            rw [List.map_append]
            exact List.Sublist.append_right (List.sublist_append_left _ _) _)
          (by rw [hv4]; rcases hd with hd | hd
              · exact .inl hd
              · exact .inr (by omega))
        obtain ⟨s2, q1, q2, q3, q4, q5⟩ := il b3 (FlL_cons.1 hfl).2 (fun q hq => hpl q (by simp [hq])) (fun q hq => hpgl q (List.mem_append_right _ hq)) s1
          (by
            have h5 : ((subsL l).map (fun q => (q.1 : Int)) ++ s1.seen).Perm (((ia, Ct.page j ta) :: Ct.subs j ta ++ subsL l).map (fun q => (q.1 : Int)) ++ s.seen) := by
              refine (List.Perm.append_left _ r5).trans (perm_of_count fun a => ?_)
              simp only [List.map_append, List.count_append]
              omega
            exact h5.symm.nodup hnd)
          (.inr (by omega))
        refine ⟨s2, ?_, ?_, q3, fun _ => ?_, ?_⟩
        · have e3 : k + ((ia, Ct.page j ta) :: Ct.subs j ta ++ subsL l).length = k + (subsL l).length + (1 + (Ct.subs j ta).length) := by simp only [List.length_append, List.length_cons]; omega
          rw [e3, hv1]
          show chkLoop pf _ (v :: (vs ++ todo)) s = _
          rw [r1, hv2, q1]
        · rw [q2, r2, List.flatMap_cons, List.append_assoc]
        · rw [q2]
          intro e
          exact r4 (List.append_eq_nil_iff.1 e).1
        · refine q5.trans ((List.Perm.append_left _ r5).trans (perm_of_count fun a => ?_))
          simp only [List.map_append, List.count_append]
          omega
    obtain ⟨s1, r1, r2, r3, r4, r5⟩ := key ks hw2 hf hp (fun q hq => hpg q (List.mem_cons_of_mem _ hq)) ⟨s.leaves, u.id :: s.seen, s.depth⟩
      (by
        refine (List.Perm.nodup ?_ hnd)
        rw [hi]
        refine perm_of_count fun a => ?_
        show List.count a (((i, Ct.page (j + 1) ks) :: subsL (j := j) ks).map (fun q => (q.1 : Int)) ++ s.seen) = _
        simp only [List.map_cons, List.count_append, List.count_cons]
        omega) (by simpa using hdep)
    have hne : ks ≠ ([] : List (Kid j)) := fun e => by rw [e] at hw1; cases hw1
    refine ⟨s1, r1, r2, ?_, r4 hne, ?_⟩
    · rcases r3 with h3 | h3
      · exact absurd h3 (r4 hne)
      · exact h3
    · refine r5.trans ?_
      rw [hi]
      refine perm_of_count fun a => ?_
      show _ = List.count a (((i, Ct.page (j + 1) ks) :: subsL (j := j) ks).map (fun q => (q.1 : Int)) ++ s.seen)
      simp only [List.map_cons, List.count_append, List.count_cons]
      omega
/-- A TREE IS FOUND TO BE ONE. -/
theorem chk_of_tree {Q : Prm} {P : Pgr} {c : Int → List UInt8} {D : Nat} {t : Ct D} (hQ : 1 ≤ Q.a ∧ 1 ≤ Q.m) (T : Tree Q P c D t) : chkT (P.pg c) P.pages.length = true := by
  have hfl : ∀ {j : Nat} {t : Ct j}, FlIn Q j t → FlIn ⟨1, 1, 0⟩ j t := by
    intro j
    induction j with
    | zero => intro t _; trivial
    | succ j ih =>
      intro t h k hk
      have h1 := h k hk
      rw [Fl_iff] at h1 ⊢
      refine ⟨?_, ih h1.2⟩
      cases j with
      | zero => have := h1.1; simp only [minN] at this ⊢; omega
      | succ j => have := h1.1; simp only [minN] at this ⊢; omega
  have hget : ∀ q ∈ allP D t, P.pg c (q.1 : Int) = some q.2 := fun q hq => T.rep.rep.at (i := q.1) (p := q.2) hq
  have hlen := T.rep.le90
  have hl2 : (allP D t).length = 1 + (Ct.subs D t).length := by unfold allP; rw [List.length_cons]; omega
  obtain ⟨s1, r1, r2, r3, r4, r5⟩ := chk_run D t und0 0 rfl T.wf (fun h => by cases h) (fun _ => T.root) (hfl T.fl) T.zero hget (91 - (1 + (Ct.subs D t).length)) [] ⟨[], [], 0⟩ (by
      rw [List.append_nil]
      have h1 := T.rep.rep.nodup
      unfold allP at h1
      rw [List.Nodup, List.pairwise_map] at h1 ⊢
      exact h1.imp fun h e => h (by have e : ((_ : Nat) : Int) = ((_ : Nat) : Int) := e; omega)) (.inl rfl)
  rw [show 91 - (1 + (Ct.subs D t).length) + (1 + (Ct.subs D t).length) = 91 by omega] at r1
  have r6 : chkLoop (P.pg c) 91 [und0] ⟨[], [], 0⟩ = some s1 := by
    rw [r1]
    cases 91 - (1 + (Ct.subs D t).length) <;> rw [chkLoop]
  unfold chkT
  rw [r6]
  simp only
  rw [Bool.and_eq_true, decide_eq_true_eq]
  refine ⟨?_, ?_⟩
  · rw [r2, List.nil_append, chained_to _ (lvP_pos D 0 t), lvP_lvs]
    exact T.ch
  · rw [r5.length_eq, T.rep.len, hl2]
    simp
    omega
end Go.Proofs.YthbhkdhljlganaaGreatDoor

namespace Go.Proofs.YthbhkdhljlganaaGreatDoor
open Go Go.RowKit
set_option linter.unusedVariables false

section
variable (P : Program)
theorem run_copy_rowN (w : World) (dT sT ty elem : TypeId) (g o dLen dCap : Nat) (a : Addr) (sLen sCap sz : Nat) (cur : Array Value) (t : TypeId) (cs : List Value)
    (hu : P.underlying dT = some (.slice elem)) (hs : (P.info? elem).map (·.size) = some sz)
    (hg : w.heap[g]? = some (.cells cur t (0, 0))) (hn : cs.length = Nat.min sLen dLen * sz)
    (hsrc : ∀ j v, cs[j]? = some v → w.cell? (a.add j) = some v) (hfit : o + cs.length ≤ cur.size) (h1 : ∀ v ∈ cs, v.oneCell' = true) :
    (Builtin.copy_ #[dT, sT] ty #[.slice (some ⟨g, o, none⟩) dLen dCap, .slice (some a) sLen sCap]).run P w =
      .ok (goInt (Nat.min sLen dLen)) (w.setRow g (cur.toList.take o ++ cs ++ cur.toList.drop (o + cs.length)).toArray) := by
  have hl := run_loadCells_list (P := P) w a cs hsrc
  have hst := run_storeCells_at P g o t cs 0 cur w hg (by simpa using hfit) h1
  cases hq : P.info? elem with
  | none => simp [hq] at hs
  | some i =>
    have hi : i.size = sz := by simpa [hq] using hs
    simp [Builtin.copy_, run_underlying hu, Builtin.lenOf, Builtin.firstCells, sizeOf, typeInfo, hq, hi, ← hn, hl, hst]
/-- append(s, make([]T, n)...) beyond the capacity. -/
theorem run_append_grow_zeros (w : World) (t tn ty e : TypeId) (i : TypeInfo) (z : Value) (k kn : IntKind) (ht : P.underlying t = some (.slice e)) (htn : P.underlying tn = some (.int kn)) (hi : P.info? e = some i) (hz : i.zero = some z)
    (base : Option Addr) (sLen sCap : Nat) (olds : List Value) (hold : (Builtin.firstCells i.size sLen (.slice base sLen sCap)).run P w.drew = .ok olds.toArray w.drew)
    (n : Nat) (h0 : 0 < n) (hs : 0 < i.size) (hg : sCap < sLen + n) (h63 : ((sLen + n : Nat) : Int) ≤ 9223372036854775807) (h48 : n * i.bytes ≤ 281474976710656) (hfit : Builtin.nextslicecap (sLen + n) sCap * i.bytes ≤ 281474976710656) :
    (Builtin.append_ #[t, tn] ty #[.slice base sLen sCap, .int k n]).run P w =
      .ok (.slice (some ⟨w.heap.size, 0, none⟩) (sLen + n) (grownCap w (sLen + n) sCap e))
        (w.drew.alloc (.cells (olds.toArray ++ Builtin.zeroCells z.cells n ++ Builtin.zeroCells z.cells (grownCap w (sLen + n) sCap e - (sLen + n))) e)) := by
  have hw : IntKind.i64.wrap (n : Int) = n := by rw [IntKind.wrap_i64]; omega
  have hn2 : ¬ (sLen + n ≤ sCap) := by omega
  have h63' : ¬ (9223372036854775807 < ((sLen : Int) + (n : Int))) := by omega
  have h48' : ¬ (281474976710656 < Builtin.nextslicecap (sLen + n) sCap * i.bytes) := by omega
  have h48i : ¬ (281474976710656 < (n : Int) * (i.bytes : Int)) := by
    rw [← Int.natCast_mul]
    omega
  have hneg : ¬ ((n : Int) < 0) := by omega
  have hns : ¬ (n * i.size = 0) := Nat.mul_ne_zero (by omega) (by omega)
  simp [Builtin.append_, run_underlying ht, run_underlying htn, sizeOf, typeInfo, zeroValue, hi, hz, asInt, asIntOf, hw, hn2, hneg, hns, h63', h48', h48i, Question.forced, hold, newRow, grownCap]
end
/-- A piece written behind the first o cells, then another one behind it. -/
theorem row_two (R X Y : List Value) (o : Nat) (h : o + X.length + Y.length ≤ R.length) :
    (((R.take o ++ X ++ R.drop (o + X.length)).take (o + X.length) ++ Y ++ (R.take o ++ X ++ R.drop (o + X.length)).drop (o + X.length + Y.length))).take (o + X.length + Y.length) = R.take o ++ X ++ Y := by
  have h1 : (R.take o ++ X ++ R.drop (o + X.length)).take (o + X.length) = R.take o ++ X := by
    rw [List.take_left' (by rw [List.length_append, List.length_take]; omega)]
  rw [h1]
  rw [List.take_left' (by simp only [List.length_append, List.length_take]; omega)]
/-- The piece behind first, then the one ahead of it. -/
theorem row_two' (R X Y : List Value) (o : Nat) (h : o + X.length + Y.length ≤ R.length) :
    (((R.take (o + X.length) ++ Y ++ R.drop (o + X.length + Y.length)).take o ++ X ++ (R.take (o + X.length) ++ Y ++ R.drop (o + X.length + Y.length)).drop (o + X.length))).take (o + X.length + Y.length) = R.take o ++ X ++ Y := by
  have h1 : (R.take (o + X.length) ++ Y ++ R.drop (o + X.length + Y.length)).take o = R.take o := by
    rw [List.append_assoc, List.take_append_of_le_length (by rw [List.length_take]; omega), List.take_take, Nat.min_eq_left (by omega)]
  have h2 : (R.take (o + X.length) ++ Y ++ R.drop (o + X.length + Y.length)).drop (o + X.length) = Y ++ R.drop (o + X.length + Y.length) := by
    rw [List.append_assoc, List.drop_left' (by rw [List.length_take]; omega)]
  rw [h1, h2]
  rw [show R.take o ++ X ++ (Y ++ R.drop (o + X.length + Y.length)) = (R.take o ++ X ++ Y) ++ R.drop (o + X.length + Y.length) by simp only [List.append_assoc], List.take_left' (by simp only [List.length_append, List.length_take]; omega)]
end Go.Proofs.YthbhkdhljlganaaGreatDoor

namespace Go.Proofs.YthbhkdhljlganaaGreatDoor
open Go Go.RowKit
set_option linter.unusedVariables false

theorem celSize : (Tryz.prog.info? 81).map (·.size) = some 2 := by
  obtain ⟨i0, hi, hz, hsz, hby⟩ := elemCel.info
  rw [hi]
  simp [hsz]
theorem one_cel (x : Cel) : ∀ y ∈ ccs [x], y.oneCell' = true := ccs_one [x]
/-- A cell alone in a block. -/
theorem Sl.celBlk {w : World} {vb : Nat} {x : Cel} (h : Blk w vb 81 #[.string (st x.1), .string (st x.2)]) : Sl (fun b => b = vb) w 2 (.slice (some ⟨vb, 0, none⟩) 1 1) 1 (ccs [x]) := by
  refine ⟨rfl, some ⟨vb, 0, none⟩, 1, rfl, by omega, by simp [maxLen], (fun h => by cases h), fun _ => ⟨vb, 0, rfl, rfl, fun j u hu => ?_⟩⟩
  rcases j with _ | _ | j
  · cases hu; exact h.cell 0
  · cases hu; exact h.cell 1
  · simp [ccs] at hu

set_option maxHeartbeats 4000000 in
set_option maxRecDepth 100000 in
theorem pinsert_end (B : Nat) (A : Option Addr) (c : Nat) (l : List Cel) (x : Cel) (vb : Nat) (w : World) (ho : Co w B (.slice A l.length c) l) (hx : Blk w vb 81 #[.string (st x.1), .string (st x.2)]) (hl : l.length ≤ 1000000) (hB : B ≤ w.heap.size) :
    Calls Tryz.prog 108 #[.slice A l.length c, .int .i64 (l.length : Int), .slice (some ⟨vb, 0, none⟩) 1 1] w fun e w' => ∃ A' c', e = .returned (.slice A' (l.length + 1) c') ∧ Co w' B (.slice A' (l.length + 1) c') (l ++ [x]) ∧ Below B w w' := by
  have HO := Lib.hid ho
  have HX := Lib.hid (Sl.celBlk hx)
  obtain ⟨_, A', c', hv, hlc, hcm, hA0, _⟩ := ho.cs
  cases hv
  have hM1 : Hid (l.length + 1 ≤ maxLen) := by simp only [Hid, maxLen]; omega
  have hM2 : Hid ((l.length + 1) * 32 ≤ 140737488355328) := by rw [Hid]; omega
  have HB := Lib.hid hB
  clear ho hx hB hA0
  go_enter Tryz.func108, Tryz.ntmps108
  go_wp2_with (at_builtin; refine wpList_append_sl _ rfl (.tmp 23) (.tmp 24) elemCel rfl HO.out HX.out rfl rfl (one_cel x) hM1.out hM2.out HB.out ?_; intro A5 k5 c5 w5 hown5 hg5 hat5)
  all_goals
    obtain rfl := own_len hown5
    go_ret
    refine ⟨A5, c5, rfl, ?_, below_grown_own (Below.refl _ _) HO.out hg5 HB.out⟩
    unfold Co
    rw [List.length_append, List.length_singleton, ccs_append]
    exact hown5

set_option maxHeartbeats 8000000 in
set_option maxRecDepth 100000 in
/-- There is no room: a new row. -/
theorem pinsert_grow (B g cap : Nat) (cur : Array Value) (l : List Cel) (x : Cel) (i vb : Nat) (w : World) (hBg : B ≤ g) (hg : w.heap[g]? = some (.cells cur 81 (0, 0))) (hcl : l.length ≤ cap) (hcm : cap ≤ maxLen) (hcs : cur.size = cap * 2) (hct : cur.toList.take (l.length * 2) = ccs l)
    (hx : Blk w vb 81 #[.string (st x.1), .string (st x.2)]) (hi : i < l.length) (hl : l.length ≤ 1000000) (hB : B ≤ w.heap.size) (hroom : cap < l.length + 1) :
    Calls Tryz.prog 108 #[.slice (some ⟨g, 0, none⟩) l.length cap, .int .i64 (i : Int), .slice (some ⟨vb, 0, none⟩) 1 1] w fun e w' => ∃ A' c', e = .returned (.slice A' (l.length + 1) c') ∧ Co w' B (.slice A' (l.length + 1) c') (l.take i ++ x :: l.drop i) ∧ Below B w w' := by
  obtain ⟨n, hn⟩ : ∃ n, l.length = n := ⟨_, rfl⟩
  rw [hn] at hcl hct hi hl hroom ⊢
  obtain ⟨i0, hinf, hz, hsz, hby⟩ := elemCel.info
  have hcelg : ∀ j v, (ccs l)[j]? = some v → w.cell? ⟨g, j, none⟩ = some v := fun j v hj => by
    rw [← hct] at hj
    have h1 := (List.getElem?_eq_some_iff.1 hj).1
    rw [List.length_take, Array.length_toList] at h1
    rw [List.getElem?_take_of_lt (by omega), Array.getElem?_toList] at hj
    simp [World.cell?, hg, hj]
  have hold : (Builtin.firstCells i0.size i (.slice (some ⟨g, 0, none⟩) i cap)).run Tryz.prog w.drew = .ok (ccs (l.take i)).toArray w.drew := by
    rw [hsz]
    refine run_firstCells_some w.drew 2 i ⟨g, 0, none⟩ i cap (ccs (l.take i)) (by rw [ccs_len, List.length_take]; omega) (fun j v hj => ?_)
    rw [Addr.add_lit, Nat.zero_add]
    refine hcelg j v ?_
    rw [← ccs_take] at hj
    have h1 := (List.getElem?_eq_some_iff.1 hj).1
    rw [List.length_take] at h1
    rwa [List.getElem?_take_of_lt (by omega)] at hj
  have hap := fun ty => run_append_grow_zeros Tryz.prog w 34 3 ty 81 i0 (.agg #[.string ⟨#[]⟩, .string ⟨#[]⟩]) .i64 .i64 Tryz.underlying34 Tryz.underlying3 hinf hz (some ⟨g, 0, none⟩) i cap (ccs (l.take i)) hold (n + 1 - i) (by omega) (by omega) (by omega) (by omega) (by rw [hby]; omega) (by rw [hby]; exact growslice_fits (by omega) (by omega))
  have hni : (n : Int) + 1 - (i : Int) = ((n + 1 - i : Nat) : Int) := by omega
  have hin : i + (n + 1 - i) = n + 1 := by omega
  rw [hin] at hap
  obtain ⟨cap', hcap'⟩ : ∃ cap', grownCap w (n + 1) cap 81 = cap' := ⟨_, rfl⟩
  have hge : n + 1 ≤ cap' := by rw [← hcap']; exact grownCap_ge w (n + 1) cap 81
  have hlm : cap' ≤ maxLen := by rw [← hcap']; exact grownCap_le_maxLen w (n + 1) cap 81 (by simp only [maxLen]; omega)
  rw [hcap'] at hap
  obtain ⟨row, hrow⟩ : ∃ row, (ccs (l.take i)).toArray ++ Builtin.zeroCells (Value.agg #[.string ⟨#[]⟩, .string ⟨#[]⟩]).cells (n + 1 - i) ++ Builtin.zeroCells (Value.agg #[.string ⟨#[]⟩, .string ⟨#[]⟩]).cells (cap' - (n + 1)) = row := ⟨_, rfl⟩
  have hrs : row.size = cap' * 2 := by
    rw [← hrow]
    simp only [Builtin.zeroCells, Array.size_append, Array.size_map, Array.size_range, List.size_toArray, ccs_len, List.length_take, hn]
    show min i n * 2 + (n + 1 - i) * 2 + (cap' - (n + 1)) * 2 = cap' * 2
    rw [Nat.min_eq_left (by omega)]
    omega
  have hrt : row.toList.take (i * 2) = ccs (l.take i) := by
    rw [← hrow, Array.toList_append, Array.toList_append, List.append_assoc, List.take_append_of_le_length (by simp only [ccs_len, List.length_take]; omega), List.take_of_length_le (by simp only [ccs_len, List.length_take]; omega)]
  rw [hrow] at hap
  have hne1 : ¬ (cap = i) := by omega
  have hne2 : ¬ (cap' = i) := by omega
  have hne3 : ¬ (cap' = i + 1) := by omega
  have hz2 : ¬ ((i : Int) = (n : Int)) := by omega
  have hw1 : IntKind.i64.wrap ((n : Int) + 1 - (i : Int)) = ((n + 1 - i : Nat) : Int) := by rw [hni, IntKind.wrap_i64]; omega
  have hw2 : IntKind.i64.wrap ((n : Int) + 1) = (n : Int) + 1 := by rw [IntKind.wrap_i64]; omega
  have hw3 : IntKind.i64.wrap ((i : Int) + 1) = (i : Int) + 1 := by rw [IntKind.wrap_i64]; omega
  have hgi : (cap : Int) < (n : Int) + 1 := by omega
  have hii : (i : Int) ≤ (cap : Int) := by omega
  have hij : (i : Int) ≤ (n : Int) := by omega
  have hx0 := hx.cell 0
  have hvw : vb < w.heap.size := hx.lt
  have hgw : g < w.heap.size := (Array.getElem?_eq_some_iff.1 hg).1
  obtain ⟨row1, hrow1⟩ : ∃ row1, (row.toList.take (i * 2) ++ ccs [x] ++ row.toList.drop (i * 2 + (ccs [x]).length)).toArray = row1 := ⟨_, rfl⟩
  have hr1s : row1.size = cap' * 2 := by
    rw [← hrow1]
    simp only [List.size_toArray, List.length_append, List.length_take, List.length_drop, Array.length_toList, ccs_len, List.length_singleton]
    omega
  obtain ⟨W1, hW1⟩ : ∃ W1, w.drew.alloc (.cells row 81) = W1 := ⟨_, rfl⟩
  have hb1 : Below w.heap.size w W1 := by rw [← hW1]; exact (Below.refl _ _).drew.alloc (Nat.le_refl _) _
  have hg1 : W1.heap[w.heap.size]? = some (.cells row 81 (0, 0)) := by rw [← hW1]; show (w.heap.push _)[w.heap.size]? = _; simp
  have hc1 := fun ty dc => run_copy_rowN Tryz.prog W1 34 34 ty 81 w.heap.size (i * 2) (n + 1 - i) dc ⟨vb, 0, none⟩ 1 1 2 row 81 (ccs [x]) Tryz.underlying34 celSize hg1 (by rw [show Nat.min 1 (n + 1 - i) = 1 from Nat.min_eq_left (by omega)]; rfl)
    (fun j v hj => by rw [Addr.add_lit]; obtain ⟨_, _, _, hv, _, _, _, h6⟩ := Sl.celBlk (x := x) (hx.later hb1); obtain ⟨b', o', ha, _, hcell⟩ := h6 (by omega); cases hv; cases ha; exact hcell j v hj)
    (by rw [ccs_len, List.length_singleton, hrs]; omega) (one_cel x)
  rw [hrow1, show Nat.min 1 (n + 1 - i) = 1 from Nat.min_eq_left (by omega)] at hc1
  obtain ⟨W2, hW2⟩ : ∃ W2, W1.setRow w.heap.size row1 = W2 := ⟨_, rfl⟩
  have hb2 : Below w.heap.size w W2 := by rw [← hW2]; exact below_setRow hb1 (Nat.le_refl _) _
  have hg2 : W2.heap[w.heap.size]? = some (.cells row1 81 (0, 0)) := by rw [← hW2]; exact setRow_heap _ _ _ _ _ _ hg1
  rw [hW2] at hc1
  have HW1 := Lib.hid hW1
  clear hx0
  rw [hW1] at hap
  have HAP := Lib.hid hap
  clear hap hold
  go_enter Tryz.func108, Tryz.ntmps108
  go_wp2_with (at_builtin; refine Lib.wpList_append_run _ rfl (.tmp 34) (.tmp 39) _ _ rfl _ _ rfl rfl _ _ (HAP.out _) ?_)
  obtain ⟨row2, hrow2⟩ : ∃ row2, (row1.toList.take ((i + 1) * 2) ++ ccs (l.drop i) ++ row1.toList.drop ((i + 1) * 2 + (ccs (l.drop i)).length)).toArray = row2 := ⟨_, rfl⟩
  have hdl : (ccs (l.drop i)).length = (n - i) * 2 := by rw [ccs_len, List.length_drop, hn]
  have hc2 := fun ty dc sc => run_copy_rowN Tryz.prog W2.drew 34 34 ty 81 w.heap.size ((i + 1) * 2) (n - i) dc ⟨g, i * 2, none⟩ (n - i) sc 2 row1 81 (ccs (l.drop i)) Tryz.underlying34 celSize (by show W2.heap[w.heap.size]? = _; exact hg2) (by rw [show Nat.min (n - i) (n - i) = n - i from Nat.min_self _]; exact hdl)
    (fun j v hj => by
      rw [Addr.add_lit]
      have h9 : w.cell? ⟨g, i * 2 + j, none⟩ = some v := hcelg _ v (by rw [← ccs_drop, List.getElem?_drop] at hj; exact hj)
      exact cell_later hb2.drew h9)
    (by rw [hdl, hr1s]; omega) (ccs_one _)
  rw [hrow2, show Nat.min (n - i) (n - i) = n - i from Nat.min_self _] at hc2
  obtain ⟨W3, hW3⟩ : ∃ W3, W2.drew.setRow w.heap.size row2 = W3 := ⟨_, rfl⟩
  have hb3 : Below w.heap.size w W3 := by rw [← hW3]; exact below_setRow hb2.drew (Nat.le_refl _) _
  have hg3 : W3.heap[w.heap.size]? = some (.cells row2 81 (0, 0)) := by rw [← hW3]; exact setRow_heap W2.drew _ _ _ _ _ (by show W2.heap[w.heap.size]? = _; exact hg2)
  rw [hW3] at hc2
  have hb0 : (0 : Int) ≤ (i : Int) + 1 := by omega
  have hbn : (i : Int) + 1 ≤ (n : Int) + 1 := by omega
  have htn : ((i : Int) + 1).toNat = i + 1 := by omega
  have hbk : i + 1 ≤ n + 1 := by omega
  clear hcelg
  go_region_law (fail)
  go_wp2_with fail
  go_ret
  have hlen : (l.take i ++ x :: l.drop i).length = n + 1 := by rw [List.length_append, List.length_cons, List.length_take, List.length_drop]; omega
  have hsp : ccs (l.take i ++ x :: l.drop i) = ccs (l.take i) ++ ccs [x] ++ ccs (l.drop i) := by rw [show l.take i ++ x :: l.drop i = l.take i ++ ([x] ++ l.drop i) from rfl, ccs_append, ccs_append, List.append_assoc]
  refine ⟨some ⟨w.heap.size, 0, none⟩, cap', rfl, ?_, hb3.mono hB⟩
  unfold Co
  rw [hlen]
  refine ⟨by rw [ccs_len, hlen], .inr ⟨w.heap.size, cap', row2, rfl, hB, hg3, hge, hlm, ?_, ?_⟩⟩
  · rw [← hrow2]
    simp only [List.size_toArray, List.length_append, List.length_take, List.length_drop, Array.length_toList, hdl]
    omega
  · have hX : (ccs [x]).length = 2 := rfl
    have h2 := row_two row.toList (ccs [x]) (ccs (l.drop i)) (i * 2) (by rw [hX, hdl, Array.length_toList, hrs]; omega)
    rw [hX, hdl, show i * 2 + 2 = (i + 1) * 2 by omega, show (i + 1) * 2 + (n - i) * 2 = (n + 1) * 2 by omega] at h2
    rw [hsp, ← hrt, ← h2, ← hrow2, ← hrow1, hdl, hX]
    simp only [show i * 2 + 2 = (i + 1) * 2 by omega, show (i + 1) * 2 + (n - i) * 2 = (n + 1) * 2 by omega]
end Go.Proofs.YthbhkdhljlganaaGreatDoor

namespace Go.Proofs.YthbhkdhljlganaaGreatDoor
open Go Go.RowKit
set_option linter.unusedVariables false

set_option maxHeartbeats 8000000 in
set_option maxRecDepth 100000 in
theorem pinsert_room (B g cap : Nat) (cur : Array Value) (l : List Cel) (x : Cel) (i vb : Nat) (w : World) (hBg : B ≤ g) (hg : w.heap[g]? = some (.cells cur 81 (0, 0))) (hcm : cap ≤ maxLen) (hcs : cur.size = cap * 2) (hct : cur.toList.take (l.length * 2) = ccs l)
    (hx : Blk w vb 81 #[.string (st x.1), .string (st x.2)]) (hne : vb ≠ g) (hi : i < l.length) (hl : l.length ≤ 1000000) (hroom : l.length + 1 ≤ cap) :
    Calls Tryz.prog 108 #[.slice (some ⟨g, 0, none⟩) l.length cap, .int .i64 (i : Int), .slice (some ⟨vb, 0, none⟩) 1 1] w fun e w' => ∃ A' c', e = .returned (.slice A' (l.length + 1) c') ∧ Co w' B (.slice A' (l.length + 1) c') (l.take i ++ x :: l.drop i) ∧ Below B w w' := by
  obtain ⟨n, hn⟩ : ∃ n, l.length = n := ⟨_, rfl⟩
  rw [hn] at hct hi hl hroom ⊢
  have hcelg : ∀ j v, (ccs l)[j]? = some v → w.cell? ⟨g, j, none⟩ = some v := fun j v hj => by
    rw [← hct] at hj
    have h1 := (List.getElem?_eq_some_iff.1 hj).1
    rw [List.length_take, Array.length_toList] at h1
    rw [List.getElem?_take_of_lt (by omega), Array.getElem?_toList] at hj
    simp [World.cell?, hg, hj]
  have hov : ∀ lb cb, (callFunc 139 #[.slice (some ⟨vb, 0, none⟩) 1 1, .slice (some ⟨g, (i + 1) * 2, none⟩) lb cb]).run Tryz.prog w = .ok (.value (.bool false)) w := fun lb cb => by
    rw [run_callFunc_extern Tryz.func139 (by kernel_rfl) (by kernel_rfl) (by kernel_rfl) (e := Extern.SlicesOverlaps.overlaps #[34, 34] #[4]) (by kernel_rfl),
      Lib.run_overlaps_apart w 34 4 81 Tryz.underlying34 2 (fun _ => by rfl) ⟨vb, 0, none⟩ ⟨g, (i + 1) * 2, none⟩ 1 1 lb cb hne 81 81 2 cur.size (by unfold Blk at hx; simp [World.shape?, hx]) (by simp [World.shape?, hg]) (by rw [hcs]; omega) (hx.free 0) (by unfold Blk at hx; simp [World.frozen?, hx])]
    rfl
  have hdl : (ccs (l.drop i)).length = (n - i) * 2 := by rw [ccs_len, List.length_drop, hn]
  have hX : (ccs [x]).length = 2 := rfl
  obtain ⟨row1, hrow1⟩ : ∃ row1, (cur.toList.take ((i + 1) * 2) ++ ccs (l.drop i) ++ cur.toList.drop ((i + 1) * 2 + (ccs (l.drop i)).length)).toArray = row1 := ⟨_, rfl⟩
  have hr1s : row1.size = cap * 2 := by
    rw [← hrow1]
    simp only [List.size_toArray, List.length_append, List.length_take, List.length_drop, Array.length_toList, hdl]
    omega
  have hc1 := fun ty dc sc => run_copy_rowN Tryz.prog w.drew 34 34 ty 81 g ((i + 1) * 2) (n - i) dc ⟨g, i * 2, none⟩ (n + 1 - i) sc 2 cur 81 (ccs (l.drop i)) Tryz.underlying34 celSize (by show w.heap[g]? = _; exact hg) (by rw [show Nat.min (n + 1 - i) (n - i) = n - i from Nat.min_eq_right (by omega)]; exact hdl)
    (fun j v hj => by
      rw [Addr.add_lit]
      exact hcelg (i * 2 + j) v (by rw [← ccs_drop, List.getElem?_drop] at hj; exact hj))
    (by rw [hdl, hcs]; omega) (ccs_one _)
  rw [hrow1, show Nat.min (n + 1 - i) (n - i) = n - i from Nat.min_eq_right (by omega)] at hc1
  obtain ⟨W2, hW2⟩ : ∃ W2, w.drew.setRow g row1 = W2 := ⟨_, rfl⟩
  have hb2 : Below B w W2 := by rw [← hW2]; exact below_setRow (Below.refl _ _).drew hBg _
  have hg2 : W2.heap[g]? = some (.cells row1 81 (0, 0)) := by rw [← hW2]; exact setRow_heap w.drew _ _ _ _ _ (by show w.heap[g]? = _; exact hg)
  have hx2 : Blk W2 vb 81 #[.string (st x.1), .string (st x.2)] := by
    rw [← hW2]
    unfold Blk at hx ⊢
    show (w.heap.modify g _)[vb]? = _
    rw [Array.getElem?_modify, if_neg (Ne.symm hne)]
    exact hx
  rw [hW2] at hc1
  obtain ⟨row2, hrow2⟩ : ∃ row2, (row1.toList.take (i * 2) ++ ccs [x] ++ row1.toList.drop (i * 2 + (ccs [x]).length)).toArray = row2 := ⟨_, rfl⟩
  have hc2 := fun ty dc => run_copy_rowN Tryz.prog W2 34 34 ty 81 g (i * 2) (n + 1 - i) dc ⟨vb, 0, none⟩ 1 1 2 row1 81 (ccs [x]) Tryz.underlying34 celSize hg2 (by rw [show Nat.min 1 (n + 1 - i) = 1 from Nat.min_eq_left (by omega)]; rfl)
    (fun j v hj => by rw [Addr.add_lit]; obtain ⟨_, _, _, hv, _, _, _, h6⟩ := Sl.celBlk (x := x) hx2; obtain ⟨b', o', ha, _, hcell⟩ := h6 (by omega); cases hv; cases ha; exact hcell j v hj)
    (by rw [hX, hr1s]; omega) (one_cel x)
  rw [hrow2, show Nat.min 1 (n + 1 - i) = 1 from Nat.min_eq_left (by omega)] at hc2
  obtain ⟨W3, hW3⟩ : ∃ W3, W2.setRow g row2 = W3 := ⟨_, rfl⟩
  have hb3 : Below B w W3 := by rw [← hW3]; exact below_setRow hb2 hBg _
  have hg3 : W3.heap[g]? = some (.cells row2 81 (0, 0)) := by rw [← hW3]; exact setRow_heap W2 _ _ _ _ _ hg2
  rw [hW3] at hc2
  have hne1 : ¬ (cap = i) := by omega
  have hne3 : ¬ (cap = i + 1) := by omega
  have hz2 : ¬ ((i : Int) = (n : Int)) := by omega
  have hw2 : IntKind.i64.wrap ((n : Int) + 1) = (n : Int) + 1 := by rw [IntKind.wrap_i64]; omega
  have hw3 : IntKind.i64.wrap ((i : Int) + 1) = (i : Int) + 1 := by rw [IntKind.wrap_i64]; omega
  have hgi : ¬ (cap : Int) < (n : Int) + 1 := by omega
  have hgj : (n : Int) + 1 ≤ (cap : Int) := by omega
  have hnn : (0 : Int) ≤ (n : Int) + 1 := by omega
  have htm : ((n : Int) + 1).toNat = n + 1 := by omega
  have hii : (i : Int) ≤ (cap : Int) := by omega
  have hij : (i : Int) ≤ (n : Int) := by omega
  have hik : (i : Int) ≤ (n : Int) + 1 := by omega
  have hb0 : (0 : Int) ≤ (i : Int) + 1 := by omega
  have hbn : (i : Int) + 1 ≤ (n : Int) + 1 := by omega
  have htn : ((i : Int) + 1).toNat = i + 1 := by omega
  have hbk : i + 1 ≤ n + 1 := by omega
  have hbi : i ≤ n + 1 := by omega
  clear hcelg
  go_enter Tryz.func108, Tryz.ntmps108
  go_wp2_with (simp only [hov])
  go_region_law (fail)
  go_wp2_with fail
  go_ret
  have hlen : (l.take i ++ x :: l.drop i).length = n + 1 := by rw [List.length_append, List.length_cons, List.length_take, List.length_drop]; omega
  have hsp : ccs (l.take i ++ x :: l.drop i) = ccs (l.take i) ++ ccs [x] ++ ccs (l.drop i) := by rw [show l.take i ++ x :: l.drop i = l.take i ++ ([x] ++ l.drop i) from rfl, ccs_append, ccs_append, List.append_assoc]
  refine ⟨some ⟨g, 0, none⟩, cap, rfl, ?_, hb3⟩
  unfold Co
  rw [hlen]
  refine ⟨by rw [ccs_len, hlen], .inr ⟨g, cap, row2, rfl, hBg, hg3, hroom, hcm, ?_, ?_⟩⟩
  · rw [← hrow2]
    simp only [List.size_toArray, List.length_append, List.length_take, List.length_drop, Array.length_toList, hX]
    omega
  · have hrt : cur.toList.take (i * 2) = ccs (l.take i) := by
      have h9 := congrArg (List.take (i * 2)) hct
      rw [List.take_take, Nat.min_eq_left (by omega), ccs_take] at h9
      exact h9
    have h2 := row_two' cur.toList (ccs [x]) (ccs (l.drop i)) (i * 2) (by rw [hX, hdl, Array.length_toList, hcs]; omega)
    rw [hX, hdl, show i * 2 + 2 = (i + 1) * 2 by omega, show (i + 1) * 2 + (n - i) * 2 = (n + 1) * 2 by omega] at h2
    rw [hsp, ← hrt, ← h2, ← hrow2, ← hrow1, hdl, hX]
    simp only [show i * 2 + 2 = (i + 1) * 2 by omega, show (i + 1) * 2 + (n - i) * 2 = (n + 1) * 2 by omega]

/-- slices.Insert(l, i, x): a cell more. -/
theorem pinsert_any (B : Nat) (A : Option Addr) (c : Nat) (l : List Cel) (x : Cel) (i vb : Nat) (w : World) (ho : Co w B (.slice A l.length c) l) (hx : Blk w vb 81 #[.string (st x.1), .string (st x.2)]) (hne : ∀ g, A = some ⟨g, 0, none⟩ → vb ≠ g) (hi : i ≤ l.length) (hl : l.length ≤ 1000000) (hB : B ≤ w.heap.size) :
    Calls Tryz.prog 108 #[.slice A l.length c, .int .i64 (i : Int), .slice (some ⟨vb, 0, none⟩) 1 1] w fun e w' => ∃ A' c', e = .returned (.slice A' (l.length + 1) c') ∧ Co w' B (.slice A' (l.length + 1) c') (l.take i ++ x :: l.drop i) ∧ Below B w w' := by
  by_cases he : i = l.length
  · subst he
    rw [List.take_length, List.drop_length]
    exact pinsert_end B A c l x vb w ho hx hl hB
  · rcases ho.2 with ⟨h2, h3⟩ | ⟨g, cap, cur, h2, hBg, hg, hnc, hcm, hcs, hct⟩
    · omega
    · injection h2 with h4 _ h5
      subst h4 h5
      by_cases hr : c < l.length + 1
      · exact pinsert_grow B g c cur l x i vb w hBg hg hnc hcm hcs hct hx (by omega) hl hB hr
      · exact pinsert_room B g c cur l x i vb w hBg hg hcm hcs hct hx (hne g rfl) (by omega) hl (by omega)
end Go.Proofs.YthbhkdhljlganaaGreatDoor

namespace Go.Proofs.YthbhkdhljlganaaGreatDoor
open Go Go.RowKit
set_option linter.unusedVariables false

theorem ccs_set : ∀ (cs : List Cel) (i : Nat) (x : Cel), ccs (cs.set i x) = ((ccs cs).set (i * 2) (.string (st x.1))).set (i * 2 + 1) (.string (st x.2))
  | [], i, x => by simp [ccs]
  | c :: cs, 0, x => by simp [ccs]
  | c :: cs, i + 1, x => by
    have ih := ccs_set cs i x
    unfold ccs at ih ⊢
    rw [List.set_cons_succ, List.flatMap_cons, List.flatMap_cons, ih, show (i + 1) * 2 = i * 2 + 1 + 1 by omega]
    rfl
/-- One of the cells that a slice owns put anew. -/
theorem Co.set {w : World} {B g cap : Nat} {cs : List Cel} (h : Co w B (.slice (some ⟨g, 0, none⟩) cs.length cap) cs) {i : Nat} (hi : i < cs.length) (x : Cel) :
    Co ((w.setCell ⟨g, i * 2, none⟩ (.string (st x.1))).setCell ⟨g, i * 2 + 1, none⟩ (.string (st x.2))) B (.slice (some ⟨g, 0, none⟩) cs.length cap) (cs.set i x) := by
  obtain ⟨h1, h2⟩ := h
  rcases h2 with ⟨h2, h3⟩ | ⟨g', cap', cur, hv, hBg, hg, hnc, hcm, hcs, hct⟩
  · cases h2
  · injection hv with h4 _ h5
    injection h4 with h4
    injection h4 with h4
    subst h4 h5
    unfold Co
    rw [List.length_set]
    refine ⟨by rw [ccs_len, List.length_set], .inr ⟨g, cap, (cur.setIfInBounds (i * 2) (.string (st x.1))).setIfInBounds (i * 2 + 1) (.string (st x.2)), rfl, hBg, ?_, hnc, hcm, by simp [hcs], ?_⟩⟩
    · exact heap_setCell_same _ g (i * 2 + 1) _ _ _ (heap_setCell_same w g (i * 2) cur _ _ hg)
    · rw [Array.toList_setIfInBounds, Array.toList_setIfInBounds, List.take_set, List.take_set, hct, ccs_set]
theorem Co.at {w : World} {B : Nat} {v : Value} {cs : List Cel} (h : Co w B v cs) (h0 : 0 < cs.length) : ∃ g cap, v = .slice (some ⟨g, 0, none⟩) cs.length cap ∧ B ≤ g ∧ cs.length ≤ cap ∧ (∀ i : Nat, i < cs.length → (∃ y, w.cell? ⟨g, i * 2, none⟩ = some y) ∧ (∃ y, w.cell? ⟨g, i * 2 + 1, none⟩ = some y)) ∧ ∀ o, w.frozen? ⟨g, o, none⟩ = false := by
  obtain ⟨h1, h2⟩ := h
  rcases h2 with ⟨h2, h3⟩ | ⟨g, cap, cur, hv, hBg, hg, hnc, hcm, hcs, hct⟩
  · omega
  · refine ⟨g, cap, hv, hBg, hnc, fun i hi => ⟨?_, ?_⟩, fun o => by simp [World.frozen?, hg]⟩
    · exact ⟨cur[i * 2]'(by omega), by simp only [World.cell?, hg]; exact Array.getElem?_eq_getElem _⟩
    · exact ⟨cur[i * 2 + 1]'(by omega), by simp only [World.cell?, hg]; exact Array.getElem?_eq_getElem _⟩

set_option maxHeartbeats 2000000 in
set_option maxRecDepth 100000 in
theorem pput_long (S : Nat → Prop) (leaf : Bool) (next : Int) (v0 : Value) (cs : List Cel) (k v : List UInt8) (w : World) (hr : Cs S w v0 cs) (hk : k.length ≤ 65536) (hv : v.length ≤ 65536) (hlong : 480 < k.length + v.length) :
    Calls Tryz.prog 66 #[.agg #[.bool leaf, .int .i64 next, v0], .agg #[.string (st k), .string (st v)]] w fun e w' => e = .returned (.tuple #[.agg #[.bool false, .int .i64 0, .slice none 0 0], .int .i64 100]) ∧ Below w.heap.size w w' := by
  obtain ⟨A, c, rfl, hlc, hcm, hA0, _⟩ := hr.at
  clear hr
  have hb2 : Blk (((w.alloc (.cells #[.bool leaf, .int .i64 next, .slice A cs.length c] 36)).alloc (.cells #[.string (st k), .string (st v)] 81)).alloc (.cells #[.bool false, .int .i64 0, .slice none 0 0] 36)) (w.heap.size + 1 + 1) 36 #[.bool false, .int .i64 0, .slice none 0 0] := by
    have := Blk.new1 (w.alloc (.cells #[.bool leaf, .int .i64 next, .slice A cs.length c] 36)) (.cells #[.string (st k), .string (st v)] 81) 36 #[.bool false, .int .i64 0, .slice none 0 0]
    simpa using this
  have hq : Below w.heap.size w (((w.alloc (.cells #[.bool leaf, .int .i64 next, .slice A cs.length c] 36)).alloc (.cells #[.string (st k), .string (st v)] 81)).alloc (.cells #[.bool false, .int .i64 0, .slice none 0 0] 36)) := (((Below.refl _ _).alloc (Nat.le_refl _) _).alloc (by simp) _).alloc (by simp; omega) _
  go_enter Tryz.func66, Tryz.ntmps66
  go_wp2_with fail
  generalize hW : (((w.alloc (.cells #[.bool leaf, .int .i64 next, .slice A cs.length c] 36)).alloc (.cells #[.string (st k), .string (st v)] 81)).alloc (.cells #[.bool false, .int .i64 0, .slice none 0 0] 36)) = W at *
  clear hW
  refine (great_any k v W hk hv).mono ?_
  rintro e w1 ⟨rfl, hbl⟩
  rw [decide_eq_true hlong]
  have hq2 := hq.trans (hbl.mono hq.size)
  have hb := hb2.later hbl
  have d0 : (w1).cell? ⟨w.heap.size + 1 + 1, 0, none⟩ = some (.bool false) := hb.cell 0
  have d1 : (w1).cell? ⟨w.heap.size + 1 + 1, 1, none⟩ = some (.int .i64 0) := hb.cell 1
  have d2 : (w1).cell? ⟨w.heap.size + 1 + 1, 2, none⟩ = some (.slice none 0 0) := hb.cell 2
  have df0 : (w1).frozen? ⟨w.heap.size + 1 + 1, 0, none⟩ = false := hb.free 0
  have df1 : (w1).frozen? ⟨w.heap.size + 1 + 1, 1, none⟩ = false := hb.free 1
  have df2 : (w1).frozen? ⟨w.heap.size + 1 + 1, 2, none⟩ = false := hb.free 2
  have HB := Lib.hid (hb.put3 (.bool false) (.int .i64 0) (.slice none 0 0))
  have HQ := Lib.hid (below_put3 hq2 (show w.heap.size ≤ w.heap.size + 1 + 1 by omega) (.bool false) (.int .i64 0) (.slice none 0 0))
  clear hb2 hbl hb hq hq2
  go_wp2_with fail
  exact bodyPost_ret (results_cell2 rfl _ _ (w.heap.size + 1 + 1) rfl HB.out pageTy) rfl ⟨rfl, HQ.out⟩

set_option maxHeartbeats 4000000 in
set_option maxRecDepth 100000 in
theorem pput_any (S : Nat → Prop) (leaf : Bool) (next : Int) (v0 : Value) (cs : List Cel) (k v : List UInt8) (w : World) (hl : cs.length ≤ 100000) (hr : Cs S w v0 cs) (hri : RisesP cs) (hs : k.length + v.length ≤ 480) :
    Calls Tryz.prog 66 #[.agg #[.bool leaf, .int .i64 next, v0], .agg #[.string (st k), .string (st v)]] w fun e w' => ∃ vq, e = .returned (.tuple #[vq, .int .i64 0]) ∧ PgIs w.heap.size w' vq leaf next (putC cs (k, v)) ∧ Below w.heap.size w w' := by
  have HR := Lib.hid hr.lt
  obtain ⟨A, c, rfl, hlc, hcm, hA0, _⟩ := hr.at
  clear hr
  have hb0 : Blk (((w.alloc (.cells #[.bool leaf, .int .i64 next, .slice A cs.length c] 36)).alloc (.cells #[.string (st k), .string (st v)] 81)).alloc (.cells #[.bool false, .int .i64 0, .slice none 0 0] 36)) w.heap.size 36 #[.bool leaf, .int .i64 next, .slice A cs.length c] := ((Blk.new _ _ _).alloc _).alloc _
  have hb1 : Blk (((w.alloc (.cells #[.bool leaf, .int .i64 next, .slice A cs.length c] 36)).alloc (.cells #[.string (st k), .string (st v)] 81)).alloc (.cells #[.bool false, .int .i64 0, .slice none 0 0] 36)) (w.heap.size + 1) 81 #[.string (st k), .string (st v)] := (Blk.new1 _ _ _ _).alloc _
  have hb2 : Blk (((w.alloc (.cells #[.bool leaf, .int .i64 next, .slice A cs.length c] 36)).alloc (.cells #[.string (st k), .string (st v)] 81)).alloc (.cells #[.bool false, .int .i64 0, .slice none 0 0] 36)) (w.heap.size + 1 + 1) 36 #[.bool false, .int .i64 0, .slice none 0 0] := by
    have := Blk.new1 (w.alloc (.cells #[.bool leaf, .int .i64 next, .slice A cs.length c] 36)) (.cells #[.string (st k), .string (st v)] 81) 36 #[.bool false, .int .i64 0, .slice none 0 0]
    simpa using this
  have hq : Below w.heap.size w (((w.alloc (.cells #[.bool leaf, .int .i64 next, .slice A cs.length c] 36)).alloc (.cells #[.string (st k), .string (st v)] 81)).alloc (.cells #[.bool false, .int .i64 0, .slice none 0 0] 36)) := (((Below.refl _ _).alloc (Nat.le_refl _) _).alloc (by simp) _).alloc (by simp; omega) _
  go_enter Tryz.func66, Tryz.ntmps66
  go_wp2_with fail
  generalize hW : (((w.alloc (.cells #[.bool leaf, .int .i64 next, .slice A cs.length c] 36)).alloc (.cells #[.string (st k), .string (st v)] 81)).alloc (.cells #[.bool false, .int .i64 0, .slice none 0 0] 36)) = W at *
  clear hW
  have hszW := hq.size
  refine (great_any k v W (by omega) (by omega)).mono ?_
  rintro e w1 ⟨rfl, hbl⟩
  rw [decide_eq_false (by omega)]
  have HR1 := Lib.hid (HR.out.up (hq.trans (hbl.mono hq.size)))
  have HQ1 := Lib.hid (hq.trans (hbl.mono hq.size))
  have b0 := hb0.later hbl
  have b1 := hb1.later hbl
  have B2 := Lib.hid (hb2.later hbl)
  clear hb0 hb1 hb2 hbl hq HR
  have p0 : (w1).cell? ⟨w.heap.size, 0, none⟩ = some (.bool leaf) := b0.cell 0
  have p1 : (w1).cell? ⟨w.heap.size, 1, none⟩ = some (.int .i64 next) := b0.cell 1
  have p2 : (w1).cell? ⟨w.heap.size, 2, none⟩ = some (.slice A cs.length c) := b0.cell 2
  have q0 : (w1).cell? ⟨w.heap.size + 1, 0, none⟩ = some (.string (st k)) := b1.cell 0
  have q1 : (w1).cell? ⟨w.heap.size + 1, 1, none⟩ = some (.string (st v)) := b1.cell 1
  go_wp2_with fail
  refine (pfind_any _ leaf next _ cs k w1 (by omega) HR1.out hri).mono ?_
  rintro e w2 ⟨rfl, hbl⟩
  have HR2 := Lib.hid (HR1.out.up hbl)
  have HQ2 := Lib.hid (HQ1.out.trans (hbl.mono HQ1.out.size))
  have b0 := b0.later hbl
  have b1 := b1.later hbl
  have B2 := Lib.hid (B2.out.later hbl)
  have p0 := cell_later hbl p0
  have p1 := cell_later hbl p1
  have p2 := cell_later hbl p2
  have q0 := cell_later hbl q0
  have q1 := cell_later hbl q1
  have B0 := Lib.hid b0
  have hsz2 : w.heap.size + 1 + 1 < w2.heap.size := B2.out.lt
  have HY : Hid (isK cs k = true → findK cs k < cs.length ∧ putC cs (k, v) = cs.set (findK cs k) (k, v)) := fun h => ⟨isK_lt h, putC_yes (c := (k, v)) h⟩
  have HN : Hid (isK cs k = false → putC cs (k, v) = cs.take (findK cs k) ++ (k, v) :: cs.drop (findK cs k)) := fun h => putC_no (c := (k, v)) h
  have HPL : Hid ((putC cs (k, v)).length ≤ cs.length + 1) := by have := putC_len cs (k, v); rw [Hid]; omega
  have hK := findK_le cs k
  generalize findK cs k = K at *
  generalize isK cs k = Y at *
  generalize hOut : putC cs (k, v) = out at *
  have HPC := Lib.hid hOut
  clear hOut
  clear hbl HR1 HQ1 hri
  go_wp2_with fail
  refine (pclone_any _ _ cs w2 (by omega) HR2.out).mono ?_
  rintro e w3 ⟨A3, c3, rfl, hco, hbl⟩
  have HC := Lib.hid hco
  have HB3 := Lib.hid hbl
  have b0 := b0.later hbl
  have b1 := b1.later hbl
  have p0 := cell_later hbl p0
  have p1 := cell_later hbl p1
  have p2 := cell_later hbl p2
  have q0 := cell_later hbl q0
  have q1 := cell_later hbl q1
  have h32 := hbl.size
  clear hbl hco
  go_upto_if 22 with (fail)
  go_cut [8] (fun lv wx => Hid (Co wx w2.heap.size lv out) ∧ Hid (Below w2.heap.size w2 wx))
  case first =>
    cases Y with
    | true =>
      obtain ⟨hKl, ho⟩ := HY.out rfl
      obtain ⟨g, cap, hv3, hBg, hlc3, hcell, hfz⟩ := HC.out.at (by omega)
      injection hv3 with hA3 _ hc3
      subst hA3 hc3
      obtain ⟨⟨y1, hy1⟩, ⟨y2, hy2⟩⟩ := hcell K hKl
      have hf1 := hfz (K * 2)
      have hf2 := hfz (K * 2 + 1)
      have HS : Hid (Co ((w3.setCell ⟨g, K * 2, none⟩ (.string (st k))).setCell ⟨g, K * 2 + 1, none⟩ (.string (st v))) w2.heap.size (.slice (some ⟨g, 0, none⟩) cs.length c3) out) := by rw [Hid, ho]; exact HC.out.set hKl (k, v)
      have HBS := Lib.hid ((HB3.out.setCell (p := ⟨g, K * 2, none⟩) hBg (.string (st k))).setCell (p := ⟨g, K * 2 + 1, none⟩) hBg (.string (st v)))
      have hk0 : (0 : Int) ≤ (K : Int) := by omega
      have hk1 : (K : Int) < (cs.length : Int) := by omega
      have hgn : ¬ w.heap.size + 1 = g := by omega
      clear hcell hfz ho HC HB3
      go_wp2_with fail
      go_meet
      exact ⟨HS, HBS⟩
    | false =>
      have ho := HN.out rfl
      have HNB := Lib.hid (Blk.new w3 81 #[.string (st k), .string (st v)])
      have HI := pinsert_any w2.heap.size A3 c3 cs (k, v) K w3.heap.size (w3.alloc (.cells #[.string (st k), .string (st v)] 81)) (HC.out.later ((Below.refl _ _).alloc (Nat.le_refl _) _)) HNB.out (fun g hg => by
        obtain ⟨-, hd⟩ := HC.out
        rcases hd with ⟨h2, h3⟩ | ⟨g', cap', cur, hv, hBg, hgg, -⟩
        · injection h2 with h2; rw [h2] at hg; cases hg
        · injection hv with h4
          rw [h4] at hg
          injection hg with hg
          injection hg with hg
          have := lt_of_block hgg
          omega) hK (by omega) (by simp; omega)
      have HIH := Lib.hid HI
      have HOE := Lib.hid ho
      have HBA := Lib.hid (HB3.out.alloc h32 (.cells #[.string (st k), .string (st v)] 81))
      clear HI ho
      go_wp2_with fail
      refine HIH.out.mono ?_
      rintro e w4 ⟨A4, c4, rfl, hco4, hbl4⟩
      have HC4 : Hid (Co w4 w2.heap.size (.slice A4 (cs.length + 1) c4) out) := by rw [Hid, HOE.out]; exact hco4
      have HB4 := Lib.hid (HBA.out.trans hbl4)
      clear hco4 hbl4
      go_wp2_with fail
      go_meet
      exact ⟨HC4, HB4⟩
  case rest =>
    obtain ⟨HC, HB⟩ := hcut
    have hcs := HC.out.cs
    obtain ⟨A5, c5, rfl, -⟩ := hcs.at
    have HCS := Lib.hid hcs
    clear hcs
    generalize wc = w5 at *
    have hb := HB.out
    clear p0 p1 p2 q0 q1 b0 b1 HC
    have b0 := B0.out.later hb
    have B2 := Lib.hid (B2.out.later hb)
    have HQ := Lib.hid (HQ2.out.trans (hb.mono HQ2.out.size))
    have p0 : (w5).cell? ⟨w.heap.size, 0, none⟩ = some (.bool leaf) := b0.cell 0
    have p1 : (w5).cell? ⟨w.heap.size, 1, none⟩ = some (.int .i64 next) := b0.cell 1
    have p2 : (w5).cell? ⟨w.heap.size, 2, none⟩ = some (.slice A cs.length c) := b0.cell 2
    clear hb
    go_wp2_with fail
    refine (with_any _ leaf next _ _ out w5 HCS.out).mono ?_
    rintro e w6 ⟨A6, c6, rfl, hcs6, hbl⟩
    have HQ6 := Lib.hid (HQ.out.trans (hbl.mono HQ.out.size))
    have hb := B2.out.later hbl
    have d0 : (w6).cell? ⟨w.heap.size + 1 + 1, 0, none⟩ = some (.bool false) := hb.cell 0
    have d1 : (w6).cell? ⟨w.heap.size + 1 + 1, 1, none⟩ = some (.int .i64 0) := hb.cell 1
    have d2 : (w6).cell? ⟨w.heap.size + 1 + 1, 2, none⟩ = some (.slice none 0 0) := hb.cell 2
    have df0 : (w6).frozen? ⟨w.heap.size + 1 + 1, 0, none⟩ = false := hb.free 0
    have df1 : (w6).frozen? ⟨w.heap.size + 1 + 1, 1, none⟩ = false := hb.free 1
    have df2 : (w6).frozen? ⟨w.heap.size + 1 + 1, 2, none⟩ = false := hb.free 2
    have HE := Lib.hid (hb.put3 (.bool leaf) (.int .i64 next) (.slice A6 out.length c6))
    have HQ7 := Lib.hid (below_put3 HQ6.out (show w.heap.size ≤ w.heap.size + 1 + 1 by omega) (.bool leaf) (.int .i64 next) (.slice A6 out.length c6))
    have h62 := hbl.size
    have h52 := HB.out.size
    have HP : Hid (Cs (fun b => w.heap.size ≤ b ∧ b < w6.heap.size) (((w6.setCell ⟨w.heap.size + 1 + 1, 0, none⟩ (.bool leaf)).setCell ⟨w.heap.size + 1 + 1, 1, none⟩ (.int .i64 next)).setCell ⟨w.heap.size + 1 + 1, 2, none⟩ (.slice A6 out.length c6)) (.slice A6 out.length c6) out) := by
      have hn : ∀ b, ((w2.heap.size ≤ b ∧ b < w5.heap.size) ∧ b < w5.heap.size) → w.heap.size + 1 + 1 < b := fun b hb => by omega
      refine Sl.more (Sl.setCell (Sl.setCell (Sl.setCell hcs6 (p := ⟨w.heap.size + 1 + 1, 0, none⟩) (fun h => Nat.lt_irrefl _ (hn _ h)) _) (p := ⟨w.heap.size + 1 + 1, 1, none⟩) (fun h => Nat.lt_irrefl _ (hn _ h)) _) (p := ⟨w.heap.size + 1 + 1, 2, none⟩) (fun h => Nat.lt_irrefl _ (hn _ h)) _) fun b hb => ?_
      have := hn b hb
      omega
    clear hbl hb hcs6 B2
    go_wp2_with fail
    exact bodyPost_ret (results_cell2 rfl _ _ (w.heap.size + 1 + 1) rfl HE.out pageTy) rfl ⟨_, rfl, by rw [HPC.out]; exact ⟨A6, c6, rfl, Sl.more HP.out fun b hb => ⟨hb.1, by simpa using hb.2⟩⟩, HQ7.out⟩
end Go.Proofs.YthbhkdhljlganaaGreatDoor

namespace Go.Proofs.YthbhkdhljlganaaGreatDoor
open Go Go.RowKit
set_option linter.unusedVariables false

section
variable (P : Program)
theorem run_clear_rowN (w : World) (t e ty : TypeId) (z : Value) (ht : P.underlying t = some (.slice e)) (hv : ∀ w, (zeroValue e).run P w = .ok z w) (g o n c : Nat) (cur : Array Value) (e' : TypeId) (hn : 0 < n) (zs : List Value) (hz : (Builtin.zeroCells z.cells n).toList = zs) (h1 : ∀ u ∈ zs, u.oneCell' = true)
    (hg : w.heap[g]? = some (.cells cur e' (0, 0))) (hfit : o + zs.length ≤ cur.size) :
    (Builtin.clear_ #[t] ty #[.slice (some ⟨g, o, none⟩) n c]).run P w = .ok (.tuple #[]) (w.setRow g (cur.toList.take o ++ zs ++ cur.toList.drop (o + zs.length)).toArray) := by
  have hst := run_storeCells_at P g o e' zs 0 cur w hg (by simpa using hfit) h1
  simp only [Nat.add_zero] at hst
  obtain ⟨m, rfl⟩ : ∃ m, n = m + 1 := ⟨n - 1, by omega⟩
  simp [Builtin.clear_, run_underlying ht, hv, hz, hst]
end
theorem zeroOne : (Builtin.zeroCells (Value.agg #[.string ⟨#[]⟩, .string ⟨#[]⟩]).cells 1).toList = [.string ⟨#[]⟩, .string ⟨#[]⟩] := by kernel_rfl
theorem zeroCel (w : World) : (zeroValue 81).run Tryz.prog w = .ok (.agg #[.string ⟨#[]⟩, .string ⟨#[]⟩]) w := by kernel_rfl

set_option maxHeartbeats 8000000 in
set_option maxRecDepth 100000 in
/-- slices.Delete(l, i, i + 1): a cell less. -/
theorem pdelete_any (B g cap : Nat) (cur : Array Value) (l : List Cel) (i : Nat) (w : World) (hBg : B ≤ g) (hg : w.heap[g]? = some (.cells cur 81 (0, 0))) (hcm : cap ≤ maxLen) (hcs : cur.size = cap * 2) (hct : cur.toList.take (l.length * 2) = ccs l)
    (hlc : l.length ≤ cap) (hi : i < l.length) (hl : l.length ≤ 1000000) :
    Calls Tryz.prog 114 #[.slice (some ⟨g, 0, none⟩) l.length cap, .int .i64 (i : Int), .int .i64 ((i : Int) + 1)] w fun e w' => e = .returned (.slice (some ⟨g, 0, none⟩) (l.length - 1) cap) ∧ Co w' B (.slice (some ⟨g, 0, none⟩) (l.length - 1) cap) (l.take i ++ l.drop (i + 1)) ∧ Below B w w' := by
  obtain ⟨m, hn⟩ : ∃ m, l.length = m + 1 := ⟨l.length - 1, by omega⟩
  rw [hn] at hct hlc hi hl ⊢
  rw [Nat.add_sub_cancel]
  obtain ⟨i0, hinf, hz, hsz, hby⟩ := elemCel.info
  have hcelg : ∀ j v, (ccs l)[j]? = some v → w.cell? ⟨g, j, none⟩ = some v := fun j v hj => by
    rw [← hct] at hj
    have h1 := (List.getElem?_eq_some_iff.1 hj).1
    rw [List.length_take, Array.length_toList] at h1
    rw [List.getElem?_take_of_lt (by omega), Array.getElem?_toList] at hj
    simp [World.cell?, hg, hj]
  have hdl : (ccs (l.drop (i + 1))).length = (m - i) * 2 := by rw [ccs_len, List.length_drop, hn]; congr 1; omega
  obtain ⟨row1, hrow1⟩ : ∃ row1, (cur.toList.take (0 + i * i0.size) ++ ccs (l.drop (i + 1)) ++ cur.toList.drop (0 + i * i0.size + (ccs (l.drop (i + 1))).length)).toArray = row1 := ⟨_, rfl⟩
  have hlo := fun (a : Addr) (ha : 0 < m - i → a = ⟨g, (i + 1) * 2, none⟩) => run_loadCells_list (P := Tryz.prog) w.drew a (ccs (l.drop (i + 1)))
    (fun j v hj => by
      have h1 := (List.getElem?_eq_some_iff.1 hj).1
      rw [hdl] at h1
      rw [ha (by omega), Addr.add_lit]
      exact hcelg ((i + 1) * 2 + j) v (by rw [← ccs_drop, List.getElem?_drop] at hj; exact hj))
  rw [hdl] at hlo
  unfold loadCells at hlo
  have hap := run_storeCells_at Tryz.prog g (0 + i * i0.size) 81 (ccs (l.drop (i + 1))) 0 cur w.drew (by show w.heap[g]? = _; exact hg) (by rw [hdl, hcs, hsz]; omega) (ccs_one _)
  simp only [Nat.add_zero] at hap
  have hroom : i + (m - i) ≤ cap := by omega
  have hsum : i + (m - i) = m := by omega
  rw [hrow1] at hap
  rw [hsz, Nat.zero_add] at hap
  rw [hsz, Nat.zero_add, hdl] at hrow1
  have hr1s : row1.size = cap * 2 := by
    rw [← hrow1]
    simp only [List.size_toArray, List.length_append, List.length_take, List.length_drop, Array.length_toList, hdl]
    omega
  obtain ⟨W2, hW2⟩ : ∃ W2, w.drew.setRow g row1 = W2 := ⟨_, rfl⟩
  have hb2 : Below B w W2 := by rw [← hW2]; exact below_setRow (Below.refl _ _).drew hBg _
  have hg2 : W2.heap[g]? = some (.cells row1 81 (0, 0)) := by rw [← hW2]; exact setRow_heap w.drew _ _ _ _ _ (by show w.heap[g]? = _; exact hg)
  rw [hW2] at hap
  obtain ⟨row2, hrow2⟩ : ∃ row2, (row1.toList.take (m * 2) ++ [Value.string ⟨#[]⟩, Value.string ⟨#[]⟩] ++ row1.toList.drop (m * 2 + 2)).toArray = row2 := ⟨_, rfl⟩
  have hcl := fun (W : World) (hg2 : W.heap[g]? = some (.cells row1 81 (0, 0))) (ty : TypeId) (c : Nat) => run_clear_rowN Tryz.prog W 34 81 ty _ Tryz.underlying34 zeroCel g (m * 2) 1 c row1 81 (by omega) [.string ⟨#[]⟩, .string ⟨#[]⟩] zeroOne (by simp [Value.oneCell']) hg2 (by show _ + 2 ≤ _; omega)
  simp only [List.length_cons, List.length_nil, Nat.zero_add, Nat.reduceAdd] at hcl
  rw [hrow2] at hcl
  have hcl1 := fun (ty : TypeId) (c : Nat) => hcl W2 hg2 ty c
  have hcl2 := fun (ty : TypeId) (c : Nat) => hcl W2.drew (by show W2.heap[g]? = _; exact hg2) ty c
  clear hcl
  have hw2 : IntKind.i64.wrap ((i : Int) + 1) = (i : Int) + 1 := by rw [IntKind.wrap_i64]; omega
  have hii : (i : Int) ≤ (cap : Int) := by omega
  have hij : (i : Int) + 1 ≤ (cap : Int) := by omega
  have hik : (i : Int) + 1 ≤ (m : Int) + 1 := by omega
  have hil : (i : Int) ≤ (m : Int) + 1 := by omega
  have him : (i : Int) ≤ (i : Int) + 1 := by omega
  have hb0 : (0 : Int) ≤ (i : Int) + 1 := by omega
  have htn : ((i : Int) + 1).toNat = i + 1 := by omega
  have htm : ((m : Int) + 1).toNat = m + 1 := by omega
  have hmc : (m : Int) ≤ (cap : Int) := by omega
  have hmd : (m : Int) + 1 ≤ (cap : Int) := by omega
  have hm0 : (0 : Int) ≤ (m : Int) + 1 := by omega
  have hnm : ¬ cap = m := by omega
  have hni : ¬ cap = i := by omega
  have hne : ((i : Int) == (i : Int) + 1) = false := by rw [beq_eq_false_iff_ne]; omega
  have hne2 : ¬ ((i : Int) = (i : Int) + 1) := by omega
  have hmm : (m : Int) ≤ (m : Int) + 1 := by omega
  have hmN : m ≤ cap := by omega
  have hsub : m + 1 - (i + 1) = m - i := by omega
  have hsub2 : m + 1 - m = 1 := by omega
  have hfin : Co (W2.setRow g row2) B (.slice (some ⟨g, 0, none⟩) m cap) (l.take i ++ l.drop (i + 1)) ∧ Co (W2.drew.setRow g row2) B (.slice (some ⟨g, 0, none⟩) m cap) (l.take i ++ l.drop (i + 1)) := by
    have hlen : (l.take i ++ l.drop (i + 1)).length = m := by rw [List.length_append, List.length_take, List.length_drop]; omega
    have h3 : row2.size = cap * 2 := by
      rw [← hrow2]
      simp only [List.size_toArray, List.length_append, List.length_take, List.length_drop, Array.length_toList, List.length_cons, List.length_nil]
      omega
    have h4 : row2.toList.take (m * 2) = ccs (l.take i ++ l.drop (i + 1)) := by
      have hrt : cur.toList.take (i * 2) = ccs (l.take i) := by
        have h9 := congrArg (List.take (i * 2)) hct
        rw [List.take_take, Nat.min_eq_left (by omega), ccs_take] at h9
        exact h9
      rw [← hrow2]
      simp only
      rw [List.append_assoc, List.take_left' (by rw [List.length_take, Array.length_toList]; omega), ← hrow1, hrt, ccs_append]
      simp only
      rw [List.take_left' (by rw [List.length_append, hdl, ccs_len, List.length_take]; omega)]
    unfold Co
    rw [hlen]
    refine ⟨⟨by rw [ccs_len, hlen], .inr ⟨g, cap, row2, rfl, hBg, setRow_heap _ _ _ _ _ _ hg2, by omega, hcm, h3, ?_⟩⟩, ⟨by rw [ccs_len, hlen], .inr ⟨g, cap, row2, rfl, hBg, setRow_heap _ _ _ _ _ _ (by show W2.heap[g]? = _; exact hg2), by omega, hcm, h3, ?_⟩⟩⟩
    · exact h4
    · exact h4
  have HE : Hid (m - i = 0 → W2 = w.drew) := fun h0 => by
    have h1 : ccs (l.drop (i + 1)) = [] := List.eq_nil_of_length_eq_zero (by rw [hdl, h0, Nat.zero_mul])
    rw [← hW2, ← hrow1, h1, h0, Nat.zero_mul, Nat.add_zero, List.append_nil, List.take_append_drop, Array.toArray_toList]
    exact setRow_self w.drew g cur _ _ (by show w.heap[g]? = _; exact hg)
  have HF := Lib.hid hfin
  have HB2 := Lib.hid hb2
  have HGB := Lib.hid hBg
  clear hfin hrow1 hrow2 hct hcelg hW2 hdl hsz hby
  by_cases hcap : cap = i + 1
  · obtain rfl : m = i := by omega
    subst hcap
    obtain rfl := HE.out (Nat.sub_self m)
    clear hlo hap hroom hsum
    go_enter Tryz.func114, Tryz.ntmps114
    go_wp2_with fail
    go_region_law (fail)
    go_wp2_with fail
    go_ret
    first
      | exact ⟨rfl, HF.out.1, below_setRow HB2.out HGB.out _⟩
      | exact ⟨rfl, HF.out.2, below_setRow HB2.out.drew HGB.out _⟩
  · have hlo1 := hlo ⟨g, (i + 1) * 2, none⟩ (fun _ => rfl)
    clear hlo
    have hcap2 : ¬ cap = i + 1 := hcap
    go_enter Tryz.func114, Tryz.ntmps114
    go_wp2_with fail
    go_region_law (fail)
    go_wp2_with fail
    go_ret
    first
      | exact ⟨rfl, HF.out.1, below_setRow HB2.out HGB.out _⟩
      | exact ⟨rfl, HF.out.2, below_setRow HB2.out.drew HGB.out _⟩
end Go.Proofs.YthbhkdhljlganaaGreatDoor

namespace Go.Proofs.YthbhkdhljlganaaGreatDoor
open Go Go.RowKit
set_option linter.unusedVariables false

theorem pclone_row (S : Nat → Prop) (v0 : Value) (cs : List Cel) (w : World) (hl : cs.length ≤ 1000000) (hr : Cs S w v0 cs) (h0 : 0 < cs.length) :
    Calls Tryz.prog 107 #[v0] w fun e w' => ∃ g cap cur, e = .returned (.slice (some ⟨g, 0, none⟩) cs.length cap) ∧ w.heap.size ≤ g ∧ w'.heap[g]? = some (.cells cur 81 (0, 0)) ∧ cs.length ≤ cap ∧ cap ≤ maxLen ∧ cur.size = cap * 2 ∧ cur.toList.take (cs.length * 2) = ccs cs ∧ Below w.heap.size w w' := by
  refine (pclone_any S v0 cs w hl hr).mono ?_
  rintro e w' ⟨A, c, rfl, ⟨h1, h2⟩, hb⟩
  rcases h2 with ⟨h2, h3⟩ | ⟨g, cap, cur, hv, hBg, hg, hnc, hcm, hcs, hct⟩
  · omega
  · injection hv with h4 _ h5
    subst h4 h5
    exact ⟨g, c, cur, rfl, hBg, hg, hnc, hcm, hcs, hct, hb⟩

set_option maxHeartbeats 2000000 in
set_option maxRecDepth 100000 in
theorem premove_no (S : Nat → Prop) (leaf : Bool) (next : Int) (v0 : Value) (cs : List Cel) (k : List UInt8) (w : World) (hl : cs.length ≤ 100000) (hr : Cs S w v0 cs) (hri : RisesP cs) (hk : isK cs k = false) :
    Calls Tryz.prog 68 #[.agg #[.bool leaf, .int .i64 next, v0], .string (st k)] w fun e w' => e = .returned (.tuple #[.agg #[.bool false, .int .i64 0, .slice none 0 0], .int .i64 102]) ∧ Below w.heap.size w w' := by
  have HR := Lib.hid hr.lt
  obtain ⟨A, c, rfl, hlc, hcm, hA0, _⟩ := hr.at
  have HKI := Lib.hid hk
  clear hr hk
  have hb1 : Blk ((w.alloc (.cells #[.bool leaf, .int .i64 next, .slice A cs.length c] 36)).alloc (.cells #[.bool false, .int .i64 0, .slice none 0 0] 36)) (w.heap.size + 1) 36 #[.bool false, .int .i64 0, .slice none 0 0] := Blk.new1 _ _ _ _
  have hq : Below w.heap.size w ((w.alloc (.cells #[.bool leaf, .int .i64 next, .slice A cs.length c] 36)).alloc (.cells #[.bool false, .int .i64 0, .slice none 0 0] 36)) := ((Below.refl _ _).alloc (Nat.le_refl _) _).alloc (by simp) _
  go_enter Tryz.func68, Tryz.ntmps68
  go_wp2_with fail
  generalize hW : ((w.alloc (.cells #[.bool leaf, .int .i64 next, .slice A cs.length c] 36)).alloc (.cells #[.bool false, .int .i64 0, .slice none 0 0] 36)) = W at *
  clear hW
  refine (pfind_any _ leaf next _ cs k W (by omega) (HR.out.up hq) hri).mono ?_
  rintro e w1 ⟨rfl, hbl⟩
  rw [HKI.out]
  have hq2 := hq.trans (hbl.mono hq.size)
  have hb := hb1.later hbl
  have d0 : (w1).cell? ⟨w.heap.size + 1, 0, none⟩ = some (.bool false) := hb.cell 0
  have d1 : (w1).cell? ⟨w.heap.size + 1, 1, none⟩ = some (.int .i64 0) := hb.cell 1
  have d2 : (w1).cell? ⟨w.heap.size + 1, 2, none⟩ = some (.slice none 0 0) := hb.cell 2
  have df0 : (w1).frozen? ⟨w.heap.size + 1, 0, none⟩ = false := hb.free 0
  have df1 : (w1).frozen? ⟨w.heap.size + 1, 1, none⟩ = false := hb.free 1
  have df2 : (w1).frozen? ⟨w.heap.size + 1, 2, none⟩ = false := hb.free 2
  have HB := Lib.hid (hb.put3 (.bool false) (.int .i64 0) (.slice none 0 0))
  have HQ := Lib.hid (below_put3 hq2 (show w.heap.size ≤ w.heap.size + 1 by omega) (.bool false) (.int .i64 0) (.slice none 0 0))
  clear hb1 hbl hb hq hq2
  generalize findK cs k = K at *
  go_wp2_with fail
  exact bodyPost_ret (results_cell2 rfl _ _ (w.heap.size + 1) rfl HB.out pageTy) rfl ⟨rfl, HQ.out⟩

set_option maxHeartbeats 4000000 in
set_option maxRecDepth 100000 in
theorem premove_any (S : Nat → Prop) (leaf : Bool) (next : Int) (v0 : Value) (cs : List Cel) (k : List UInt8) (w : World) (hl : cs.length ≤ 100000) (hr : Cs S w v0 cs) (hri : RisesP cs) (hk : isK cs k = true) :
    Calls Tryz.prog 68 #[.agg #[.bool leaf, .int .i64 next, v0], .string (st k)] w fun e w' => ∃ vq, e = .returned (.tuple #[vq, .int .i64 0]) ∧ PgIs w.heap.size w' vq leaf next (delC cs k) ∧ Below w.heap.size w w' := by
  have HR := Lib.hid hr.lt
  obtain ⟨A, c, rfl, hlc, hcm, hA0, _⟩ := hr.at
  have HKI := Lib.hid hk
  have HDL : Hid (delC cs k = cs.take (findK cs k) ++ cs.drop (findK cs k + 1)) := delC_yes hk
  have hKl := isK_lt hk
  clear hr hk
  have hb0 : Blk ((w.alloc (.cells #[.bool leaf, .int .i64 next, .slice A cs.length c] 36)).alloc (.cells #[.bool false, .int .i64 0, .slice none 0 0] 36)) w.heap.size 36 #[.bool leaf, .int .i64 next, .slice A cs.length c] := (Blk.new _ _ _).alloc _
  have hb1 : Blk ((w.alloc (.cells #[.bool leaf, .int .i64 next, .slice A cs.length c] 36)).alloc (.cells #[.bool false, .int .i64 0, .slice none 0 0] 36)) (w.heap.size + 1) 36 #[.bool false, .int .i64 0, .slice none 0 0] := Blk.new1 _ _ _ _
  have hq : Below w.heap.size w ((w.alloc (.cells #[.bool leaf, .int .i64 next, .slice A cs.length c] 36)).alloc (.cells #[.bool false, .int .i64 0, .slice none 0 0] 36)) := ((Below.refl _ _).alloc (Nat.le_refl _) _).alloc (by simp) _
  go_enter Tryz.func68, Tryz.ntmps68
  go_wp2_with fail
  generalize hW : ((w.alloc (.cells #[.bool leaf, .int .i64 next, .slice A cs.length c] 36)).alloc (.cells #[.bool false, .int .i64 0, .slice none 0 0] 36)) = W at *
  clear hW
  refine (pfind_any _ leaf next _ cs k W (by omega) (HR.out.up hq) hri).mono ?_
  rintro e wf ⟨rfl, hbl⟩
  rw [HKI.out]
  have HQ := Lib.hid (hq.trans (hbl.mono hq.size))
  have HRf := Lib.hid (HR.out.up HQ.out)
  have b0 := hb0.later hbl
  have HB1 := Lib.hid (hb1.later hbl)
  have hbp : w.heap.size + 1 < wf.heap.size := HB1.out.lt
  have p0 : (wf).cell? ⟨w.heap.size, 0, none⟩ = some (.bool leaf) := b0.cell 0
  have p1 : (wf).cell? ⟨w.heap.size, 1, none⟩ = some (.int .i64 next) := b0.cell 1
  have p2 : (wf).cell? ⟨w.heap.size, 2, none⟩ = some (.slice A cs.length c) := b0.cell 2
  clear hb0 hb1 hbl hq b0 hri HR
  generalize hKe : findK cs k = K at *
  have HKE := Lib.hid hKe
  clear hKe
  have hw1 : IntKind.i64.wrap ((K : Int) + 1) = (K : Int) + 1 := IntWalk.i64_in _ (by omega)
  obtain ⟨out, hout⟩ : ∃ out, cs.take K ++ cs.drop (K + 1) = out := ⟨_, rfl⟩
  have HO := Lib.hid hout
  clear hout
  go_upto_region 4 with (fail)
  go_region_held3 (fun w' => w'.cell? ⟨w.heap.size, 0, none⟩ = some (.bool leaf) ∧ w'.cell? ⟨w.heap.size, 1, none⟩ = some (.int .i64 next) ∧ w'.cell? ⟨w.heap.size, 2, none⟩ = some (.slice A cs.length c))
    (first
      | go_keep
      | (go_split_ands
         refine ⟨?_, ?_, ?_⟩ <;> (refine (hbz _).trans ?_; assumption)))
    ((first
      | (go_at_call 107; refine (pclone_row (fun b => b < wf.heap.size) _ cs _ (by omega) (by exact HRf.out) (by omega)).mono ?_; rintro e w6 ⟨g, cap, cur, rfl, hBg, hg, hnc, hcm6, hcs6, hct6, hb6⟩; have hq6 : Below wf.heap.size wf w6 := ⟨hb6.os, hb6.tape, hb6.output, hb6.size, hb6.block⟩; have hbz : ∀ o, w6.cell? ⟨w.heap.size, o, none⟩ = wf.cell? ⟨w.heap.size, o, none⟩ := fun o => hq6.cell (p := ⟨w.heap.size, o, none⟩) (Nat.lt_of_succ_lt hbp))
      | (go_at_call 114; refine (pdelete_any wf.heap.size g cap cur cs K _ hBg (by exact hg) hcm6 hcs6 hct6 hnc hKl (by omega)).mono ?_; rintro e w7 ⟨rfl, hco7, hb7⟩; rw [HO.out] at hco7; have hz7 : Below wf.heap.size w6 w7 := ⟨hb7.os, hb7.tape, hb7.output, hb7.size, hb7.block⟩; have hq7 : Below wf.heap.size wf w7 := hq6.trans hz7; have hbz : ∀ o, w7.cell? ⟨w.heap.size, o, none⟩ = w6.cell? ⟨w.heap.size, o, none⟩ := fun o => hz7.cell (p := ⟨w.heap.size, o, none⟩) (Nat.lt_of_succ_lt hbp))
      | (go_at_call 109; refine (with_any (fun b => wf.heap.size ≤ b ∧ b < w7.heap.size) leaf next _ _ out _ (by exact hco7.cs)).mono ?_; rintro e w9 ⟨A9, c9, rfl, hcs9, hb9⟩; have hz9 : Below w7.heap.size w7 w9 := ⟨hb9.os, hb9.tape, hb9.output, hb9.size, hb9.block⟩; have hq9 : Below wf.heap.size wf w9 := hq7.trans (hz9.mono hq7.size); have hbz : ∀ o, w9.cell? ⟨w.heap.size, o, none⟩ = w7.cell? ⟨w.heap.size, o, none⟩ := fun o => hz9.cell (p := ⟨w.heap.size, o, none⟩) (Nat.lt_of_lt_of_le (Nat.lt_of_succ_lt hbp) hq7.size); have k1 := HB1.out.later hq9; have d0 : w9.cell? ⟨w.heap.size + 1, 0, none⟩ = some (.bool false) := k1.cell 0; have d1 : w9.cell? ⟨w.heap.size + 1, 1, none⟩ = some (.int .i64 0) := k1.cell 1; have d2 : w9.cell? ⟨w.heap.size + 1, 2, none⟩ = some (.slice none 0 0) := k1.cell 2; have f0 := k1.free 0; have f1 := k1.free 1; have f2 := k1.free 2)))
  go_wp2_with fail
  have HBL := k1.put3 (.bool leaf) (.int .i64 next) (.slice A9 out.length c9)
  have hqw := HQ.out.trans (hq9.mono HQ.out.size)
  have HQ7 := below_put3 hqw (show w.heap.size ≤ w.heap.size + 1 by omega) (.bool leaf) (.int .i64 next) (.slice A9 out.length c9)
  have h97 := hz9.size
  have HP : Cs (fun b => w.heap.size ≤ b ∧ b < w9.heap.size) (((w9.setCell ⟨w.heap.size + 1, 0, none⟩ (.bool leaf)).setCell ⟨w.heap.size + 1, 1, none⟩ (.int .i64 next)).setCell ⟨w.heap.size + 1, 2, none⟩ (.slice A9 out.length c9)) (.slice A9 out.length c9) out := by
    have hn : ∀ b, ((wf.heap.size ≤ b ∧ b < w7.heap.size) ∧ b < w7.heap.size) → w.heap.size + 1 < b := fun b hb => by omega
    refine Sl.more (Sl.setCell (Sl.setCell (Sl.setCell hcs9 (p := ⟨w.heap.size + 1, 0, none⟩) (fun h => Nat.lt_irrefl _ (hn _ h)) _) (p := ⟨w.heap.size + 1, 1, none⟩) (fun h => Nat.lt_irrefl _ (hn _ h)) _) (p := ⟨w.heap.size + 1, 2, none⟩) (fun h => Nat.lt_irrefl _ (hn _ h)) _) fun b hb => ?_
    have := hn b hb
    omega
  exact bodyPost_ret (results_cell2 rfl _ _ (w.heap.size + 1) rfl HBL pageTy) rfl ⟨_, rfl, by rw [HDL.out, HO.out]; exact ⟨A9, c9, rfl, Sl.more HP fun b hb => ⟨hb.1, by simpa using hb.2⟩⟩, HQ7⟩
end Go.Proofs.YthbhkdhljlganaaGreatDoor

namespace Go.Proofs.YthbhkdhljlganaaGreatDoor
open Go Go.RowKit
set_option linter.unusedVariables false

end Go.Proofs.YthbhkdhljlganaaGreatDoor

namespace Go.Proofs.YthbhkdhljlganaaGreatDoor
open Go Go.RowKit
set_option linter.unusedVariables false

theorem PgIs.later {B : Nat} {w w' : World} {v : Value} {leaf : Bool} {next : Int} {cs : List Cel} (h : PgIs B w v leaf next cs) (hb : Below w.heap.size w w') : PgIs B w' v leaf next cs := by
  obtain ⟨A, c, rfl, hc⟩ := h
  exact ⟨A, c, rfl, Sl.more (Sl.below hc hb fun _ h => h.2) fun b h => ⟨h.1, Nat.lt_of_lt_of_le h.2 hb.size⟩⟩
/-- A page, in a region where memory only grows. -/
def VPg (leaf : Bool) (next : Int) (cs : List Cel) : VP := fun v w => PgIs 0 w v leaf next cs
theorem Stays.pg (leaf : Bool) (next : Int) (cs : List Cel) : Stays (VPg leaf next cs) := fun _ _ _ hb h => PgIs.later h hb

end Go.Proofs.YthbhkdhljlganaaGreatDoor

namespace Go.Proofs.YthbhkdhljlganaaGreatDoor
open Go Go.RowKit
set_option linter.unusedVariables false

/-- Pages that can be read. -/
structure Pr (P : Pgr) (c : Int → List UInt8) : Prop where
  ok : P.D.Ok
  stored : Stored P.D P.a P.tb c
  wlen : ∀ x b, P.wr x = some b → b.length ≤ 2048
  a0 : 0 ≤ P.a
  a1 : P.a ≤ 65536
theorem Kin.pr {P P' : Pgr} {c : Int → List UInt8} (k : Kin P P') (h : Pr P c) : Pr P' c :=
  ⟨by rw [k.D]; exact h.ok, by rw [k.D, k.a, k.tb]; exact h.stored, k.wlen h.wlen, by rw [k.a]; exact h.a0, by rw [k.a]; exact h.a1⟩
/-- THE TREE LIES AT g, its pager at Z. -/
structure Tg (w : World) (g : Nat) (Z : Pz) (P : Pgr) (c : Int → List UInt8) : Prop where
  pg : Pg w Z P
  blk : Blk w g 102 #[.pointer (some ⟨Z.g, 0, none⟩)]
  pr : Pr P c
  bits : BitsOk w
  z0 : ¬ Z.has 0
section
variable {w w' : World} {g : Nat} {Z : Pz} {P P' : Pgr} {c : Int → List UInt8}
theorem Tg.later (t : Tg w g Z P c) (hb : Below w.heap.size w w') : Tg w' g Z P c := ⟨t.pg.later hb, t.blk.later hb, t.pr, t.bits.later hb, t.z0⟩
theorem Pz.not_kind {b : Nat} {ty : TypeId} (p : Pg w Z P) (hk : kindAt w b = some (some ty)) (h1 : ty ≠ 91) (h2 : ty ≠ 151) (h3 : ty ≠ 76) (h4 : ty ≠ 124) : ¬ Z.has b := by
  intro hb
  have := p.kinds hb
  rw [hk] at this
  simp only [Option.some.injEq, reduceCtorEq, false_or] at this
  rcases this with h | h | h | h
  · exact h1 h
  · exact h2 h
  · exact h3 h
  · exact h4 h
theorem Tg.nz (t : Tg w g Z P c) : ¬ Z.has g := Pz.not_kind t.pg (kind_blk t.blk) (by decide) (by decide) (by decide) (by decide)
theorem bits_turn (h : BitsOk w) (z0 : ¬ Z.has 0) (s : Ptp Z w Z w') : BitsOk w' := fun i hi => by
  have hb := s.turn.block 0 h.pos z0
  rw [← h i hi]
  unfold World.cell?
  rw [hb]
/-- Behind a call on the pager. -/
theorem Tg.done (t : Tg w g Z P c) (d : PgDone Z P' w w') (k : Kin P P') : Tg w' g Z P' c :=
  ⟨d.1, (d.2.turn.block g t.blk.lt t.nz).trans t.blk, k.pr t.pr, bits_turn t.bits t.z0 d.2, t.z0⟩
/-- A call on the tree: what it is then. -/
def TgDone (g : Nat) (Z : Pz) (P' : Pgr) (c : Int → List UInt8) (w w' : World) : Prop := Tg w' g Z P' c ∧ Ptp Z w Z w'
/-- Cells in memory that is not the pager's stay. -/
theorem Cs.ptp {S : Nat → Prop} {v : Value} {cs : List Cel} (h : Cs S w v cs) (s : Ptp Z w Z w') (hS : ∀ b, S b → b < w.heap.size ∧ ¬ Z.has b) : Cs S w' v cs :=
  Sl.keep h fun b o hb => World.cell?_of_block (s.turn.block b (hS b hb).1 (hS b hb).2)
end

theorem mid_pok {x : Pag} (h : POk x) : Mid x.2.2 := ⟨by have := sz_len (x := x); have := h.parts.2.2; omega, fun c hc => by have := chk_small none _ h.parts.2.1 c hc; omega⟩
theorem getV_err : ∀ (l : List UInt8) (i v er : Nat), getV i v l = .error er → er = 10 ∨ er = 12
  | [], i, v, er, h => by rw [getV] at h; injection h with h; exact .inl h.symm
  | b :: r, i, v, er, h => by
    rw [getV] at h
    split at h
    · injection h with h; exact .inr h.symm
    · split at h
      · cases h
      · exact getV_err r _ _ er h
theorem getVarB_err {l : List UInt8} {er : Nat} (h : getVarB l = .error er) : er = 10 ∨ er = 12 := getV_err l 0 0 er h
theorem pgOfB_ok {l : List UInt8} {x : Pag} (h : pgOfB l = some x) : POk x := by
  unfold pgOfB at h
  split at h
  · cases h
  · unfold pgIn at h
    split at h
    split at h
    split at h
    split at h
    split at h
    · rename_i hc
      cases h
      exact hc.2
    · cases h
theorem pg_ok {P : Pgr} {c : Int → List UInt8} {i : Int} {x : Pag} (h : P.pg c i = some x) : POk x := by
  unfold Pgr.pg at h
  rw [Option.bind_eq_some_iff] at h
  obtain ⟨b, _, h⟩ := h
  exact pgOfB_ok h
theorem POk.no : POk noPg := by
  refine POk.mk' (by decide) rfl ?_
  have := pgSz_few (next := 0) (cs := []) (by omega) (by simp)
  show pgSz ((0 : Nat) : Int) [] ≤ 2048
  simp [celsN] at this
  simp
  omega
theorem pgD_ok (P : Pgr) (c : Int → List UInt8) (i : Int) : POk (P.pgD c i) := by
  unfold Pgr.pgD
  cases h : P.pg c i with
  | none => exact POk.no
  | some x => exact pg_ok h

set_option maxHeartbeats 2000000 in
set_option maxRecDepth 100000 in
theorem tchild_any (k v : List UInt8) (w : World) (hv : v.length ≤ 1000000) :
    Calls Tryz.prog 73 #[.agg #[.string (st k), .string (st v)]] w fun e w' => e = .returned (.int .i64 (childT v)) ∧ Below w.heap.size w w' := by
  have hml : v.length ≤ maxLen := by simp only [maxLen]; omega
  have q0 := (Below.refl w.heap.size w).alloc (Nat.le_refl _) (.cells #[.string (st k), .string (st v)] 81)
  have b0 : Blk (w.alloc (.cells #[.string (st k), .string (st v)] 81)) w.heap.size 81 #[.string (st k), .string (st v)] := Blk.new _ _ _
  have c1 : (w.alloc (.cells #[.string (st k), .string (st v)] 81)).cell? ⟨w.heap.size, 1, none⟩ = some (.string (st v)) := b0.cell 1
  have hsz := b0.lt
  have HQ := Lib.hid q0
  clear b0 q0
  go_enter Tryz.func73, Tryz.ntmps73
  generalize hW : w.alloc (.cells #[.string (st k), .string (st v)] 81) = W at *
  go_wp2_with (refine wpList_bytes_of_st _ rfl (.tmp 8) rfl tS tB tU hml rfl ?_; intro A1 c1 w1 hbs1 hbl1 hsz1)
  have HB1 := Lib.hid (HQ.out.trans (hbl1.mono HQ.out.size))
  refine (getVar_any _ _ v w1 (by omega) hbs1).mono ?_
  rintro e w2 ⟨hok, herr⟩
  cases hg : getVarB v with
  | error er =>
    obtain ⟨rfl, hb2⟩ := herr er hg
    have hc : Hid (childT v = -1) := by unfold childT; rw [Hid, hg]
    have her : ¬ ((er : Int) = 0) := by
      have := getVarB_err hg
      omega
    clear hok herr hg
    go_wp2_with fail
    go_ret
    exact ⟨by rw [hc.out]; rfl, HB1.out.trans (hb2.mono HB1.out.size)⟩
  | ok x =>
    obtain ⟨x, n⟩ := x
    obtain ⟨A, k', c', rfl, hown, hb2⟩ := hok x n hg
    have hx := (getVarB_bound hg).1
    have HX : Hid (x < U64) := hx
    have hc : Hid (childT v = if x = 0 ∨ 90 ≤ x then -1 else (x : Int)) := by unfold childT; rw [Hid, hg]
    have HB2 := Lib.hid (HB1.out.trans (hb2.mono HB1.out.size))
    clear hok herr hg hown hx
    by_cases h0 : x = 0
    · subst h0
      rw [if_pos (.inl rfl)] at hc
      go_wp2_with fail
      go_ret
      exact ⟨by rw [hc.out]; rfl, HB2.out⟩
    · by_cases h9 : 90 ≤ x
      · rw [if_pos (.inr h9)] at hc
        have g0 : ¬ (x : Int) = 0 := by omega
        have g9 : (90 : Int) ≤ (x : Int) := by omega
        go_wp2_with fail
        go_ret
        exact ⟨by rw [hc.out]; rfl, HB2.out⟩
      · rw [if_neg (by omega)] at hc
        have g0 : ((x : Int) == 0) = false := beq_eq_false_iff_ne.2 (by omega)
        have g9 : decide ((90 : Int) ≤ (x : Int)) = false := decide_eq_false (by omega)
        have gw : IntKind.i64.wrap (x : Int) = (x : Int) := i64_inp (by omega) (by omega)
        go_wp2_with fail
        go_ret
        exact ⟨by rw [hc.out]; rfl, HB2.out⟩

theorem cellTy : StructTy Tryz.prog 81 2 := ⟨⟨_, Tryz.underlying81⟩, by kernel_rfl⟩
theorem below_put2 {B : Nat} {w0 w : World} {g : Nat} (h : Below B w0 w) (hg : B ≤ g) (x y : Value) : Below B w0 ((w.setCell ⟨g, 0, none⟩ x).setCell ⟨g, 1, none⟩ y) :=
  (h.setCell (p := ⟨g, 0, none⟩) hg x).setCell (p := ⟨g, 1, none⟩) hg y
set_option maxHeartbeats 2000000 in
set_option maxRecDepth 100000 in
theorem tlead_any (k : List UInt8) (i : Nat) (w : World) (hi : i < 1000000) :
    Calls Tryz.prog 113 #[.string (st k), .int .i64 (i : Int)] w fun e w' => e = .returned (.agg #[.string (st k), .string (st (varB i))]) ∧ Below w.heap.size w w' := by
  have b0 : Blk (w.alloc (.cells #[.string ⟨#[]⟩, .string ⟨#[]⟩] 81)) w.heap.size 81 #[.string ⟨#[]⟩, .string ⟨#[]⟩] := Blk.new _ _ _
  have HQ := Lib.hid ((Below.refl w.heap.size w).alloc (Nat.le_refl _) (.cells #[.string ⟨#[]⟩, .string ⟨#[]⟩] 81))
  have HB := Lib.hid b0
  have gw : IntKind.u64.wrap (i : Int) = (i : Int) := wrap_u64 (by omega) (by unfold U64; omega)
  have hl : (varB i).length ≤ 10 := varB_le10 (by unfold U64; omega)
  clear b0
  go_enter Tryz.func113, Tryz.ntmps113
  go_wp2_with fail
  generalize hW : w.alloc (.cells #[.string ⟨#[]⟩, .string ⟨#[]⟩] 81) = W at *
  clear hW
  refine (putVar_any (fun _ => True) _ [] i W (by unfold U64; omega) (by rw [List.nil_append]; omega) (Bs.nilv _ _)).mono ?_
  rintro e w2 ⟨A, k2, c2, rfl, hob, hb2⟩
  rw [List.nil_append] at hob
  have hbs := hob.bs
  have K2 := Lib.hid (HB.out.later hb2)
  have k20 : w2.cell? ⟨w.heap.size, 0, none⟩ = some (.string ⟨#[]⟩) := K2.out.cell 0
  have k21 : w2.cell? ⟨w.heap.size, 1, none⟩ = some (.string ⟨#[]⟩) := K2.out.cell 1
  have j20 := K2.out.free 0
  have j21 := K2.out.free 1
  have HQ2 := Lib.hid (HQ.out.trans (hb2.mono HQ.out.size))
  clear hob hb2
  generalize hV : varB i = V at *
  have HV := Lib.hid hV
  clear hV
  go_wp2_with (refine wpList_string_of_bs _ rfl (.tmp 8) rfl tB tU tS hbs rfl ?_)
  exact bodyPost_ret (results_cell1 rfl _ _ w.heap.size rfl (K2.out.put2 _ _) cellTy) rfl ⟨by rw [HV.out], below_put2 HQ2.out (Nat.le_refl _) _ _⟩

/-! ### Pages read and written -/
theorem PgIs.no (B : Nat) (w : World) : PgIs B w (.agg #[.bool false, .int .i64 0, .slice none 0 0]) false 0 [] := ⟨none, 0, rfl, Sl.nil⟩
set_option maxHeartbeats 4000000 in
set_option maxRecDepth 100000 in
theorem tread_any (g : Nat) (Z : Pz) (P : Pgr) (c : Int → List UInt8) (i : Int) (w : World) (ht : Tg w g Z P c) (hi : InI i) :
    Calls Tryz.prog 72 #[.pointer (some ⟨g, 0, none⟩), .int .i64 i] w fun e w' => ∃ v, e = .returned (.tuple #[v, .bool (P.pg c i).isSome]) ∧ PgIs w.heap.size w' v (P.pgD c i).1 ((P.pgD c i).2.1 : Int) (P.pgD c i).2.2 ∧ Below w.heap.size w w' := by
  have HT := Lib.hid ht
  have HI := Lib.hid hi
  have hb0 : Blk (w.alloc (.cells #[.bool false, .int .i64 0, .slice none 0 0] 36)) w.heap.size 36 #[.bool false, .int .i64 0, .slice none 0 0] := Blk.new _ _ _
  have HB0 := Lib.hid hb0
  have HQ0 := Lib.hid ((Below.refl w.heap.size w).alloc (Nat.le_refl _) (.cells #[.bool false, .int .i64 0, .slice none 0 0] 36))
  have e0 : (w.alloc (.cells #[.bool false, .int .i64 0, .slice none 0 0] 36)).cell? ⟨g, 0, none⟩ = some (.pointer (some ⟨Z.g, 0, none⟩)) := (ht.blk.later HQ0.out).cell 0
  have HT0 := Lib.hid (ht.later HQ0.out)
  clear ht hi hb0
  go_enter Tryz.func72, Tryz.ntmps72
  go_wp2_with fail
  generalize hW : w.alloc (.cells #[.bool false, .int .i64 0, .slice none 0 0] 36) = W at *
  clear hW
  refine (pread_any Z P c i W HT0.out.pg HT0.out.pr.ok HT0.out.pr.stored HT0.out.pr.wlen HT0.out.pr.a0 HT0.out.pr.a1 HI.out).mono ?_
  rintro e w1 ⟨A, n, c1, rfl, hob, hb1⟩
  have HB1 := Lib.hid (HB0.out.later hb1)
  have HQ1 := Lib.hid (HQ0.out.trans (hb1.mono HQ0.out.size))
  have hz1 := HB1.out.lt
  have k0 : w1.cell? ⟨w.heap.size, 0, none⟩ = some (.bool false) := HB1.out.cell 0
  have k1 : w1.cell? ⟨w.heap.size, 1, none⟩ = some (.int .i64 0) := HB1.out.cell 1
  have k2 : w1.cell? ⟨w.heap.size, 2, none⟩ = some (.slice none 0 0) := HB1.out.cell 2
  have j0 := HB1.out.free 0
  have j1 := HB1.out.free 1
  have j2 := HB1.out.free 2
  have HOB := Lib.hid hob
  have hln : n = ((P.page c i).getD []).length := hob.len
  subst hln
  clear hob hb1 e0
  cases hh : P.has i with
  | false =>
    have hpg : P.pg c i = none := by unfold Pgr.pg Pgr.page; rw [hh]; rfl
    have HPD : Hid (P.pgD c i = noPg) := by unfold Pgr.pgD; rw [Hid, hpg]; rfl
    have HPG := Lib.hid hpg
    clear hpg hh
    go_wp2_with fail
    exact bodyPost_ret (results_cell2 rfl _ _ w.heap.size rfl (HB1.out.put3 _ _ _) pageTy) rfl ⟨_, by rw [HPG.out]; rfl, by rw [HPD.out]; exact PgIs.no _ _, below_put3 HQ1.out (Nat.le_refl _) _ _ _⟩
  | true =>
    have hpage : P.page c i = some ((P.wr i).getD (c i)) := by unfold Pgr.page; rw [hh]; rfl
    have hpg : P.pg c i = pgOfB ((P.page c i).getD []) := by unfold Pgr.pg; rw [hpage]; rfl
    have HPG := Lib.hid hpg
    have hlen : ((P.page c i).getD []).length ≤ 2048 := by
      rw [hpage]
      simp only [Option.getD_some]
      cases hw : P.wr i with
      | some b => exact HT0.out.pr.wlen i b hw
      | none =>
        have : (P.tb i).isSome = true := by
          unfold Pgr.has at hh
          rw [hw] at hh
          simp only [Option.isSome_none, Bool.false_or, Bool.and_eq_true] at hh
          exact hh.1
        obtain ⟨⟨p, l⟩, hpl⟩ := Option.isSome_iff_exists.1 this
        obtain ⟨_, h2, h3, _⟩ := HT0.out.pr.stored i p l hpl
        simp only [Option.getD_none]
        omega
    generalize (P.page c i).getD [] = L at *
    clear hpage hpg hh
    go_wp2_with fail
    refine (pgof_any _ _ L w1 (by omega) HOB.out.bs).mono ?_
    rintro e w2 ⟨hsome, hnone, hb2⟩
    have HB2 := Lib.hid (HB1.out.later hb2)
    have HQ2 := Lib.hid (HQ1.out.trans (hb2.mono HQ1.out.size))
    have hz2 := hb2.size
    have hlt2 : w.heap.size < w2.heap.size := by omega
    have hn1 : ¬ w.heap.size = w2.heap.size := by omega
    have hn2 : ¬ w2.heap.size = w.heap.size := by omega
    have k0 : w2.cell? ⟨w.heap.size, 0, none⟩ = some (.bool false) := HB2.out.cell 0
    have k1 : w2.cell? ⟨w.heap.size, 1, none⟩ = some (.int .i64 0) := HB2.out.cell 1
    have k2 : w2.cell? ⟨w.heap.size, 2, none⟩ = some (.slice none 0 0) := HB2.out.cell 2
    have j0 := HB2.out.free 0
    have j1 := HB2.out.free 1
    have j2 := HB2.out.free 2
    cases ho : pgOfB L with
    | none =>
      obtain rfl := hnone ho
      have HPG2 : Hid (P.pg c i = none) := HPG.out.trans ho
      have HPD : Hid (P.pgD c i = noPg) := by unfold Pgr.pgD; rw [Hid, HPG2.out]; rfl
      clear hsome hnone hb2 ho
      go_wp2_with fail
      exact bodyPost_ret (results_cell2 rfl _ _ w.heap.size rfl ((HB2.out.put3 _ _ _).alloc _) pageTy) rfl ⟨_, by rw [HPG2.out]; rfl, by rw [HPD.out]; exact PgIs.no _ _, (below_put3 HQ2.out (Nat.le_refl _) _ _ _).alloc (by simp; omega) _⟩
    | some x =>
      obtain ⟨b, m, cs⟩ := x
      obtain ⟨v, rfl, A2, c2, rfl, hcs⟩ := hsome b m cs ho
      have HPG2 : Hid (P.pg c i = some (b, m, cs)) := HPG.out.trans ho
      have HPD : Hid (P.pgD c i = (b, m, cs)) := by unfold Pgr.pgD; rw [Hid, HPG2.out]; rfl
      have HCS := Lib.hid hcs
      clear hsome hnone hb2 ho hcs
      go_wp2_with fail
      refine bodyPost_ret (results_cell2 rfl _ _ w.heap.size rfl ((HB2.out.put3 _ _ _).alloc _) pageTy) rfl ⟨_, by rw [HPG2.out]; rfl, ?_, (below_put3 HQ2.out (Nat.le_refl _) _ _ _).alloc (by simp; omega) _⟩
      rw [HPD.out]
      refine ⟨A2, c2, rfl, ?_⟩
      have h3 := Cs.put3 (L := w1.heap.size) (B := w.heap.size) HCS.out (fun b h => h) hz1 (Nat.le_of_lt hz1) (.bool b) (.int .i64 (m : Int)) (.slice A2 cs.length c2)
      exact (Sl.alloc h3 (fun b h => h.2) _).more fun b h => ⟨h.1, by simp at h ⊢; omega⟩

theorem pgB_len (x : Pag) : (pgB x).length ≤ 2048 := by
  by_cases h : POk x
  · exact h.bytes.1
  · unfold pgB
    unfold POk at h
    rw [if_neg h]
    simp
set_option maxHeartbeats 4000000 in
set_option maxRecDepth 100000 in
theorem twrite_any (g : Nat) (Z : Pz) (P : Pgr) (c : Int → List UInt8) (i : Int) (S : Nat → Prop) (leaf : Bool) (n : Nat) (v0 : Value) (cs : List Cel) (w : World) (ht : Tg w g Z P c) (hi : InI i) (hm : Mid cs) (hn : n ≤ 1000000) (hr : Cs S w v0 cs) :
    Calls Tryz.prog 43 #[.pointer (some ⟨g, 0, none⟩), .int .i64 i, .agg #[.bool leaf, .int .i64 (n : Int), v0]] w fun e w' => e = .returned (.tuple #[]) ∧ TgDone g Z (P.wp i (leaf, n, cs)) c w w' := by
  have HT := Lib.hid ht
  have HI := Lib.hid hi
  have HR := Lib.hid hr.lt
  obtain ⟨A, c1, rfl, _⟩ := hr.at
  have HQ0 := Lib.hid ((Below.refl w.heap.size w).alloc (Nat.le_refl _) (.cells #[.bool leaf, .int .i64 (n : Int), .slice A cs.length c1] 36))
  have hb0 : Blk (w.alloc (.cells #[.bool leaf, .int .i64 (n : Int), .slice A cs.length c1] 36)) w.heap.size 36 #[.bool leaf, .int .i64 (n : Int), .slice A cs.length c1] := Blk.new _ _ _
  have HT0 := Lib.hid (ht.later HQ0.out)
  have HR0 := Lib.hid (HR.out.up HQ0.out)
  clear ht hi hr
  have d0 : (w.alloc (.cells #[.bool leaf, .int .i64 (n : Int), .slice A cs.length c1] 36)).cell? ⟨w.heap.size, 0, none⟩ = some (.bool leaf) := hb0.cell 0
  have d1 : (w.alloc (.cells #[.bool leaf, .int .i64 (n : Int), .slice A cs.length c1] 36)).cell? ⟨w.heap.size, 1, none⟩ = some (.int .i64 (n : Int)) := hb0.cell 1
  have d2 : (w.alloc (.cells #[.bool leaf, .int .i64 (n : Int), .slice A cs.length c1] 36)).cell? ⟨w.heap.size, 2, none⟩ = some (.slice A cs.length c1) := hb0.cell 2
  clear hb0
  go_enter Tryz.func43, Tryz.ntmps43
  generalize hW : w.alloc (.cells #[.bool leaf, .int .i64 (n : Int), .slice A cs.length c1] 36) = W at *
  go_wp2_with fail
  refine (pgbytes_any _ leaf (n : Int) _ cs W HT0.out.bits (by omega) hm HR0.out).mono ?_
  rintro e w1 ⟨hok, hno, hb1⟩
  have HT1 := Lib.hid (HT0.out.later hb1)
  have HQ1 := Lib.hid (HQ0.out.trans (hb1.mono HQ0.out.size))
  have e0 : w1.cell? ⟨g, 0, none⟩ = some (.pointer (some ⟨Z.g, 0, none⟩)) := HT1.out.blk.cell 0
  have HPB : Hid (pgB (leaf, n, cs) = if pgChk (n : Int) cs = 0 then sealB (pgF leaf (n : Int) cs) else []) := rfl
  have HL := pgB_len (leaf, n, cs)
  have HWP : Hid (P.wp i (leaf, n, cs) = P.write i (pgB (leaf, n, cs))) := rfl
  generalize pgB (leaf, n, cs) = b at *
  have fin : ∀ (w2 : World), PgDone Z (P.write i b) w1 w2 → TgDone g Z (P.wp i (leaf, n, cs)) c w w2 := fun w2 hd => by
    rw [HWP.out]
    exact ⟨HT1.out.done hd (Kin.write P i b), (Ptp.below HQ1.out).trans hd.2⟩
  have FIN := Lib.hid fin
  clear fin
  by_cases hc : pgChk (n : Int) cs = 0
  · obtain ⟨A2, k2, c2, rfl, hob⟩ := hok hc
    rw [if_pos hc] at HPB
    have HB := HPB.out
    subst HB
    have HOB := Lib.hid hob
    clear hok hno hb1 hob hc
    go_wp2_with fail
    refine (pwrite_any Z P i _ _ _ w1 HT1.out.pg HI.out HOB.out.bs (by omega)).mono ?_
    rintro e w2 ⟨rfl, hd⟩
    go_wp2_with fail
    go_end0
    exact ⟨rfl, FIN.out w2 hd⟩
  · obtain rfl := hno hc
    rw [if_neg hc] at HPB
    have HB := HPB.out
    subst HB
    clear hok hno hb1 hc
    go_wp2_with fail
    refine (pwrite_any Z P i (fun _ => True) _ [] w1 HT1.out.pg HI.out (Bs.nilv _ _) (by simp)).mono ?_
    rintro e w2 ⟨rfl, hd⟩
    go_wp2_with fail
    go_end0
    exact ⟨rfl, FIN.out w2 hd⟩
end Go.Proofs.YthbhkdhljlganaaGreatDoor
