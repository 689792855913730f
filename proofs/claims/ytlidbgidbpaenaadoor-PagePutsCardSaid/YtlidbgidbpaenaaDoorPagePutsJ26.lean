/- What the proof of PagePuts needs, part 26. -/
import Derived.Test.YtlidbgidbpaenaaDoorPagePutsJ14

namespace Go.Proofs.YtlidbgidbpaenaaDoor
open Go
set_option linter.unusedVariables false

/-- One key is ahead of another one. -/
def Lt (a b : List UInt8) : Prop := cmpB a b < 0
theorem Lt.trans {a b c : List UInt8} (h : Lt a b) (h' : Lt b c) : Lt a c := cmpB_trans a b c h h'
theorem Lt.irrefl {a : List UInt8} (h : Lt a a) : False := by unfold Lt at h; rw [cmpB_self] at h; omega
theorem less_iff {a b : List UInt8} : Op.bytesLess a b = true ↔ Lt a b := by rw [cmpB_less, decide_eq_true_eq]; rfl
theorem less_not {a b : List UInt8} : Op.bytesLess a b = false ↔ ¬ Lt a b := by rw [cmpB_less, decide_eq_false_iff_not]; rfl
theorem lt_or {a b : List UInt8} : Lt a b ∨ a = b ∨ Lt b a := by
  have h1 := cmpB_rng a b
  have h2 := cmpB_anti a b
  rcases h1 with h | h | h
  · exact .inl (by unfold Lt; omega)
  · exact .inr (.inl (cmpB_eq _ _ h))
  · exact .inr (.inr (by unfold Lt; omega))
theorem Lt.not {a b : List UInt8} (h : Lt a b) : ¬ Lt b a := fun h' => (h.trans h').irrefl
theorem Lt.ne {a b : List UInt8} (h : Lt a b) : a ≠ b := fun e => by subst e; exact h.irrefl
/-- The keys rise, each below all behind it. -/
def Asc (cs : List Cel) : Prop := cs.Pairwise fun a b => Lt a.1 b.1
theorem RisesP.asc {cs : List Cel} (h : RisesP cs) : Asc cs := by
  unfold Asc
  rw [List.pairwise_iff_getElem]
  intro i j hi hj hij
  exact rises_lt' h hij hj
theorem Asc.rises {cs : List Cel} (h : Asc cs) : RisesP cs := fun i hi => by
  unfold Asc at h
  rw [List.pairwise_iff_getElem] at h
  exact less_iff.2 (h i (i + 1) (by omega) hi (by omega))
theorem findK_app : ∀ {l m : List Cel} {k : List UInt8}, (∀ c ∈ l, Lt c.1 k) → (∀ c ∈ m, ¬ Lt c.1 k) → findK (l ++ m) k = l.length
  | [], [], k, _, _ => rfl
  | [], c :: m, k, _, hm => by
    unfold findK
    rw [List.nil_append, List.takeWhile_cons, if_neg (by rw [less_iff]; exact hm c (by simp))]
  | a :: l, m, k, hl, hm => by
    have ih := findK_app (l := l) (m := m) (k := k) (fun c hc => hl c (by simp [hc])) hm
    unfold findK at ih ⊢
    rw [List.cons_append, List.takeWhile_cons, if_pos (less_iff.2 (hl a (by simp))), List.length_cons, ih, List.length_cons]
section
variable {cs : List Cel} {k : List UInt8}
theorem take_lt {c : Cel} (h : c ∈ cs.take (findK cs k)) : Lt c.1 k := by
  obtain ⟨i, hi, rfl⟩ := List.mem_iff_getElem.1 h
  rw [List.length_take] at hi
  rw [List.getElem_take]
  exact less_iff.1 (findK_lt (by omega))
theorem drop_ge (ha : Asc cs) {c : Cel} (h : c ∈ cs.drop (findK cs k)) : ¬ Lt c.1 k := by
  obtain ⟨i, hi, rfl⟩ := List.mem_iff_getElem.1 h
  rw [List.length_drop] at hi
  rw [List.getElem_drop]
  have := findK_iff ha.rises k (i := findK cs k + i) (by omega)
  rw [decide_eq_true (by omega)] at this
  rw [← less_not]
  simpa using this
/-- Where the key is there: what stands there has it. -/
theorem isK_at (h : isK cs k = true) : ∃ v, cs[findK cs k]? = some (k, v) := by
  unfold isK at h
  cases hx : cs[findK cs k]? with
  | none => rw [hx] at h; cases h
  | some x =>
    rw [hx] at h
    exact ⟨x.2, by rw [← eq_of_beq h]⟩
theorem isK_no (h : isK cs k = false) {x : Cel} (hx : cs[findK cs k]? = some x) : x.1 ≠ k := by
  unfold isK at h
  rw [hx] at h
  intro e
  simp [e] at h
theorem isK_lt (h : isK cs k = true) : findK cs k < cs.length := by
  obtain ⟨v, hv⟩ := isK_at h
  exact (List.getElem?_eq_some_iff.1 hv).1
theorem drop_at (h : isK cs k = true) : ∃ v, cs.drop (findK cs k) = (k, v) :: cs.drop (findK cs k + 1) := by
  obtain ⟨v, hv⟩ := isK_at h
  obtain ⟨h1, h2⟩ := List.getElem?_eq_some_iff.1 hv
  exact ⟨v, by rw [List.drop_eq_getElem_cons h1, h2]⟩
/-- How many cells make room. -/
def hadN (cs : List Cel) (k : List UInt8) : Nat := if isK cs k then 1 else 0
theorem drop_gt (ha : Asc cs) {c : Cel} (h : c ∈ cs.drop (findK cs k + hadN cs k)) : Lt k c.1 := by
  unfold hadN at h
  cases hi : isK cs k with
  | true =>
    rw [hi, if_pos rfl] at h
    obtain ⟨v, hv⟩ := drop_at hi
    have h2 : Asc (cs.drop (findK cs k)) := List.Pairwise.drop ha
    rw [hv] at h2
    exact (List.pairwise_cons.1 h2).1 c h
  | false =>
    rw [hi] at h
    simp only [Bool.false_eq_true, if_false, Nat.add_zero] at h
    rcases lt_or (a := k) (b := c.1) with h1 | h1 | h1
    · exact h1
    · exfalso
      obtain ⟨i, hi2, hc⟩ := List.mem_iff_getElem.1 h
      rw [List.length_drop] at hi2
      rw [List.getElem_drop] at hc
      rcases Nat.eq_zero_or_pos i with h0 | h0
      · subst h0
        exact isK_no hi (x := c) (by rw [← hc]; exact List.getElem?_eq_getElem _) h1.symm
      · have h4 : Lt cs[findK cs k].1 cs[findK cs k + i].1 := by
          unfold Asc at ha
          rw [List.pairwise_iff_getElem] at ha
          exact ha _ _ (by omega) (by omega) (by omega)
        rw [hc, ← h1] at h4
        refine drop_ge (k := k) ha (c := cs[findK cs k]'(by omega)) ?_ h4
        rw [List.mem_iff_getElem]
        exact ⟨0, by rw [List.length_drop]; omega, by rw [List.getElem_drop]; rfl⟩
    · exact absurd h1 (drop_ge ha (List.mem_of_mem_drop (i := 0) (by simpa using h)))
end
/-- A cell put: ahead of those of greater keys, in the place of one of its key. -/
def putC (cs : List Cel) (c : Cel) : List Cel := cs.take (findK cs c.1) ++ c :: cs.drop (findK cs c.1 + hadN cs c.1)
/-- A key taken out (where it is there). -/
def delC (cs : List Cel) (k : List UInt8) : List Cel := cs.take (findK cs k) ++ cs.drop (findK cs k + hadN cs k)
section
variable {cs : List Cel} {k : List UInt8} {c : Cel}
theorem hadN_le (cs : List Cel) (k : List UInt8) : findK cs k + hadN cs k ≤ cs.length := by
  unfold hadN
  have h1 := findK_le cs k
  cases h : isK cs k with
  | true => have := isK_lt h; simp; omega
  | false => simp; omega
theorem putC_len (cs : List Cel) (c : Cel) : (putC cs c).length + hadN cs c.1 = cs.length + 1 := by
  have := hadN_le cs c.1
  unfold putC
  rw [List.length_append, List.length_cons, List.length_take, List.length_drop]
  omega
theorem delC_len (cs : List Cel) (k : List UInt8) : (delC cs k).length + hadN cs k = cs.length := by
  have := hadN_le cs k
  unfold delC
  rw [List.length_append, List.length_take, List.length_drop]
  omega
theorem Asc.putC (ha : Asc cs) (c : Cel) : Asc (putC cs c) := by
  unfold Proofs.YtlidbgidbpaenaaDoor.putC
  refine List.pairwise_append.2 ⟨List.Pairwise.take ha, List.pairwise_cons.2 ⟨fun x hx => drop_gt ha hx, List.Pairwise.drop ha⟩, fun x hx y hy => ?_⟩
  rcases List.mem_cons.1 hy with rfl | hy
  · exact take_lt hx
  · exact (take_lt hx).trans (drop_gt ha hy)
theorem Asc.delC (ha : Asc cs) (k : List UInt8) : Asc (delC cs k) := by
  unfold Proofs.YtlidbgidbpaenaaDoor.delC
  exact List.pairwise_append.2 ⟨List.Pairwise.take ha, List.Pairwise.drop ha, fun x hx y hy => (take_lt hx).trans (drop_gt ha hy)⟩
theorem findK_put (ha : Asc cs) (c : Cel) : findK (putC cs c) c.1 = findK cs c.1 := by
  unfold putC
  rw [findK_app (fun x hx => take_lt hx), List.length_take, Nat.min_eq_left (findK_le _ _)]
  intro x hx
  rcases List.mem_cons.1 hx with rfl | hx
  · exact fun h => h.irrefl
  · exact (drop_gt ha hx).not
theorem putC_at (cs : List Cel) (c : Cel) : (putC cs c)[findK cs c.1]? = some c := by
  have := findK_le cs c.1
  unfold putC
  rw [List.getElem?_append_right (by rw [List.length_take]; omega), List.length_take, Nat.min_eq_left this, Nat.sub_self]
  rfl
theorem isK_put (ha : Asc cs) (c : Cel) : isK (putC cs c) c.1 = true := by
  unfold isK
  rw [findK_put ha, putC_at]
  simp
theorem del_put (ha : Asc cs) (c : Cel) : delC (putC cs c) c.1 = delC cs c.1 := by
  have h := findK_le cs c.1
  have h2 : hadN (putC cs c) c.1 = 1 := by unfold hadN; rw [isK_put ha]; rfl
  unfold delC
  rw [findK_put ha, h2]
  unfold putC
  rw [List.take_left' (by rw [List.length_take]; omega)]
  congr 1
  rw [List.drop_append, List.length_take, Nat.min_eq_left h, List.drop_of_length_le (by rw [List.length_take]; omega), show findK cs c.1 + 1 - findK cs c.1 = 1 by omega]
  rfl
theorem delC_no (h : isK cs k = false) : delC cs k = cs := by
  unfold delC hadN
  rw [h]
  simp only [Bool.false_eq_true, if_false, Nat.add_zero]
  exact List.take_append_drop _ _
end
theorem putC_yes {cs : List Cel} {c : Cel} (h : isK cs c.1 = true) : putC cs c = cs.set (findK cs c.1) c := by
  rw [List.set_eq_take_append_cons_drop, if_pos (isK_lt h)]
  unfold putC hadN
  rw [h]
  rfl
theorem putC_no {cs : List Cel} {c : Cel} (h : isK cs c.1 = false) : putC cs c = cs.take (findK cs c.1) ++ c :: cs.drop (findK cs c.1) := by
  unfold putC hadN
  rw [h]
  rfl
theorem delC_yes {cs : List Cel} {k : List UInt8} (h : isK cs k = true) : delC cs k = cs.take (findK cs k) ++ cs.drop (findK cs k + 1) := by
  unfold delC hadN
  rw [h]
  rfl
/-- What the document's Put has behind i cells. -/
def outC (cs : List Cel) (c : Cel) (i : Nat) : List Cel := if i ≤ findK cs c.1 then cs.take i else cs.take (findK cs c.1) ++ c :: (cs.take i).drop (findK cs c.1 + hadN cs c.1)
section
variable {cs : List Cel} {c : Cel} {i : Nat}
theorem outC_zero : outC cs c 0 = [] := by unfold outC; rw [if_pos (Nat.zero_le _)]; rfl
theorem outC_lo (h : i < findK cs c.1) (hi : i < cs.length) : outC cs c (i + 1) = outC cs c i ++ [cs[i]] := by
  unfold outC
  rw [if_pos (by omega), if_pos (by omega), List.take_succ_eq_append_getElem hi]
theorem outC_at (hi : findK cs c.1 < cs.length) : outC cs c (findK cs c.1 + 1) = if isK cs c.1 then outC cs c (findK cs c.1) ++ [c] else outC cs c (findK cs c.1) ++ [c] ++ [cs[findK cs c.1]] := by
  unfold outC hadN
  rw [if_neg (by omega), if_pos (Nat.le_refl _)]
  cases h : isK cs c.1 with
  | true =>
    simp only [if_true]
    rw [List.drop_of_length_le (by rw [List.length_take]; omega)]
  | false =>
    simp only [Bool.false_eq_true, if_false, Nat.add_zero]
    rw [List.take_succ_eq_append_getElem hi, List.drop_left' (by rw [List.length_take]; omega), List.append_assoc]
    rfl
theorem outC_hi (h : findK cs c.1 < i) (hi : i < cs.length) : outC cs c (i + 1) = outC cs c i ++ [cs[i]] := by
  have hN : hadN cs c.1 ≤ 1 := by unfold hadN; split <;> omega
  unfold outC
  rw [if_neg (by omega), if_neg (by omega), List.take_succ_eq_append_getElem hi, List.drop_append_of_le_length (by rw [List.length_take]; omega), List.append_assoc]
  rfl
theorem outC_end : (if findK cs c.1 < cs.length then outC cs c cs.length else outC cs c cs.length ++ [c]) = putC cs c := by
  have h := findK_le cs c.1
  unfold outC putC
  split
  · rw [if_neg (by omega), List.take_length]
  · have e : findK cs c.1 = cs.length := by omega
    rw [if_pos (by omega), e]
    have hN : hadN cs c.1 = 0 := by
      unfold hadN
      cases hi : isK cs c.1 with
      | true => have := isK_lt hi; omega
      | false => rfl
    rw [hN, Nat.add_zero, List.drop_length]
theorem outC_len (hi : i ≤ cs.length) : (outC cs c i).length ≤ i + 1 := by
  unfold outC
  split
  · rw [List.length_take]; omega
  · rw [List.length_append, List.length_cons, List.length_take, List.length_drop, List.length_take]; omega
end
end Go.Proofs.YtlidbgidbpaenaaDoor
