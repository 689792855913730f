/- What the proof of PagePuts needs, part 5. -/
import Derived.Test.YtlidbgidbpaenaaDoorPagePutsJ1
import Derived.Test.YtlidbgidbpaenaaDoorPagePutsJ3
import Derived.Test.YtlidbgidbpaenaaDoorPagePutsJ4

namespace Go.Proofs.YtlidbgidbpaenaaDoor
open Go Go.RowKit
set_option linter.unusedVariables false

def ccs (cs : List Cel) : List Value := cs.flatMap fun c => [.string (st c.1), .string (st c.2)]
theorem ccs_len (cs : List Cel) : (ccs cs).length = cs.length * 2 := by
  induction cs with
  | nil => rfl
  | cons r rs ih => simp only [ccs, List.flatMap_cons, List.length_append, List.length_cons, List.length_nil] at ih ⊢; omega
theorem ccs_append (a b : List Cel) : ccs (a ++ b) = ccs a ++ ccs b := by simp [ccs]
theorem ccs_one (cs : List Cel) : ∀ u ∈ ccs cs, u.oneCell' = true := by
  intro u hu
  obtain ⟨r, _, hu⟩ := List.mem_flatMap.1 hu
  simp at hu
  rcases hu with rfl | rfl <;> rfl
theorem ccs_at {cs : List Cel} {j : Nat} (h : j < cs.length) : (ccs cs)[j * 2]? = some (.string (st cs[j].1)) ∧ (ccs cs)[j * 2 + 1]? = some (.string (st cs[j].2)) := by
  induction cs generalizing j with
  | nil => simp at h
  | cons r rs ih =>
    rcases j with _ | j
    · simp [ccs]
    · have := ih (j := j) (by simpa using h)
      simp only [ccs, List.flatMap_cons] at this ⊢
      rw [show (j + 1) * 2 = j * 2 + 1 + 1 by omega]
      simpa using this
theorem ccs_take : ∀ (rs : List Cel) (k : Nat), (ccs rs).take (k * 2) = ccs (rs.take k)
  | [], k => by simp [ccs]
  | r :: rs, 0 => by simp [ccs]
  | r :: rs, k + 1 => by
    have := ccs_take rs k
    rw [Nat.add_mul, Nat.one_mul]
    simp only [ccs, List.flatMap_cons, List.take_succ_cons] at this ⊢
    simpa using this
theorem ccs_drop : ∀ (rs : List Cel) (k : Nat), (ccs rs).drop (k * 2) = ccs (rs.drop k)
  | [], k => by simp [ccs]
  | r :: rs, 0 => by simp [ccs]
  | r :: rs, k + 1 => by
    have := ccs_drop rs k
    rw [Nat.add_mul, Nat.one_mul]
    simp only [ccs, List.flatMap_cons, List.drop_succ_cons] at this ⊢
    simpa using this
/-- The slice value v reads as the cells cs. -/
def Cs (S : Nat → Prop) (w : World) (v : Value) (cs : List Cel) : Prop := Sl S w 2 v cs.length (ccs cs)
/-- The slice value v owns the cells cs, in a block from B on. -/
def Co (w : World) (B : Nat) (v : Value) (cs : List Cel) : Prop := w.ownsRow B 47 2 v cs.length (ccs cs)
theorem Co.cs {w : World} {B : Nat} {v : Value} {cs : List Cel} (h : Co w B v cs) : Cs (fun b => B ≤ b ∧ b < w.heap.size) w v cs := Sl.of_own (by omega) h
theorem Cs.lt {S : Nat → Prop} {w : World} {v : Value} {cs : List Cel} (h : Cs S w v cs) : Cs (fun b => b < w.heap.size) w v cs := (Sl.lt h (by omega)).more fun _ h => h.2
theorem Cs.later {w w' : World} {v : Value} {cs : List Cel} (h : Cs (fun b => b < w.heap.size) w v cs) (hb : Below w.heap.size w w') : Cs (fun b => b < w.heap.size) w' v cs := Sl.below h hb fun _ h => h
theorem Cs.up {w w' : World} {v : Value} {cs : List Cel} (h : Cs (fun b => b < w.heap.size) w v cs) (hb : Below w.heap.size w w') : Cs (fun b => b < w'.heap.size) w' v cs := (h.later hb).more fun _ h => Nat.lt_of_lt_of_le h hb.size
/-- What the slice is. -/
theorem Cs.at {S : Nat → Prop} {w : World} {v : Value} {cs : List Cel} (h : Cs S w v cs) : ∃ A c, v = .slice A cs.length c ∧ cs.length ≤ c ∧ c ≤ maxLen ∧ (A = none → c = 0) ∧
    (0 < cs.length → ∃ b o, A = some ⟨b, o, none⟩ ∧ S b ∧ ∀ j (hj : j < cs.length), w.cell? ⟨b, o + j * 2, none⟩ = some (.string (st cs[j].1)) ∧ w.cell? ⟨b, o + j * 2 + 1, none⟩ = some (.string (st cs[j].2))) := by
  obtain ⟨_, A, c, h2, h3, h4, h5, h6⟩ := h
  refine ⟨A, c, h2, h3, h4, h5, fun hn => ?_⟩
  obtain ⟨b, o, ha, hs, hc⟩ := h6 hn
  refine ⟨b, o, ha, hs, fun j hj => ⟨hc _ _ (ccs_at hj).1, ?_⟩⟩
  rw [Nat.add_assoc]
  exact hc _ _ (ccs_at hj).2
theorem Cs.pre {S : Nat → Prop} {w : World} {cs : List Cel} {A : Option Addr} {c : Nat} (h : Cs S w (.slice A cs.length c) cs) {k : Nat} (hk : k ≤ cs.length) : Cs S w (.slice A k c) (cs.take k) := by
  have hl : (cs.take k).length = k := by rw [List.length_take]; omega
  obtain ⟨h1, A', c', hv, h3, h4, h5, h6⟩ := h
  injection hv with hA _ hc
  subst hA hc
  unfold Cs
  rw [hl, ← ccs_take]
  refine ⟨by rw [List.length_take, h1, Nat.min_eq_left (Nat.mul_le_mul_right _ hk)], A, c, rfl, by omega, h4, h5, fun hn => ?_⟩
  obtain ⟨b, o, hA, hS, hcell⟩ := h6 (by omega)
  refine ⟨b, o, hA, hS, fun j u hu => hcell j u ?_⟩
  have hj := (List.getElem?_eq_some_iff.1 hu).1
  rw [List.length_take] at hj
  rwa [List.getElem?_take_of_lt (by omega)] at hu
theorem Cs.cut {S : Nat → Prop} {w : World} {cs : List Cel} {b o c : Nat} (h : Cs S w (.slice (some ⟨b, o, none⟩) cs.length c) cs) {k : Nat} (hk : k ≤ cs.length) :
    Cs S w (.slice (if c = k then some ⟨b, o, none⟩ else some ⟨b, o + k * 2, none⟩) (cs.length - k) (c - k)) (cs.drop k) := by
  obtain ⟨h1, A', c', hv, h3, h4, h5, h6⟩ := h
  injection hv with hA _ hc
  subst hA hc
  unfold Cs
  rw [List.length_drop, ← ccs_drop]
  refine ⟨by rw [List.length_drop, h1, Nat.sub_mul], _, c - k, rfl, by omega, by omega, (fun hn => by split at hn <;> cases hn), fun hn => ?_⟩
  obtain ⟨b', o', hA, hS, hcell⟩ := h6 (by omega)
  injection hA with hA
  injection hA with hb ho
  subst hb ho
  rw [if_neg (by omega)]
  refine ⟨b, o + k * 2, rfl, hS, fun j u hu => ?_⟩
  rw [List.getElem?_drop] at hu
  rw [Nat.add_assoc]
  exact hcell _ u hu
theorem pageTy : StructTy Tryd.prog 24 3 := ⟨⟨_, Tryd.underlying24⟩, by kernel_rfl⟩
theorem elemCel : Elem Tryd.prog 22 47 (.agg #[.string ⟨#[]⟩, .string ⟨#[]⟩]) 2 32 := Elem.mk' Tryd.underlying22 (by kernel_rfl) rfl (by omega)
end Go.Proofs.YtlidbgidbpaenaaDoor
