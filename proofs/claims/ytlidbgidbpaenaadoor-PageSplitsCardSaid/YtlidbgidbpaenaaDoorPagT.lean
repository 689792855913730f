/- The halves of a page that may be: plain arithmetic; cells whose keys rise. -/
import Derived.Test.YtlidbgidbpaenaaDoorPagM
namespace Go.Proofs.YtlidbgidbpaenaaDoor
open Go Go.RowKit
set_option linter.unusedVariables false

theorem chk_take : ∀ (p : Option (List UInt8)) (cs : List Cel) (k : Nat), chk p cs = 0 → chk p (cs.take k) = 0
  | p, cs, 0, _ => by simp [chk]
  | p, [], k + 1, _ => by simp [chk]
  | p, c :: cs, k + 1, h => by
    rw [chk] at h
    rw [List.take_succ_cons, chk]
    split at h
    · cases h
    · rename_i h1
      rw [if_neg h1]
      split at h
      · cases h
      · rename_i h2
        rw [if_neg h2]
        exact chk_take _ cs k h
theorem chk_none {p : Option (List UInt8)} : ∀ {cs : List Cel}, chk p cs = 0 → chk none cs = 0
  | [], _ => by simp [chk]
  | c :: cs, h => by
    rw [chk] at h ⊢
    split at h
    · cases h
    · rename_i h1
      rw [if_neg h1, if_neg (by simp [sunk])]
      split at h
      · cases h
      · exact h
theorem chk_dropk : ∀ (p : Option (List UInt8)) (cs : List Cel) (k : Nat), chk p cs = 0 → chk none (cs.drop k) = 0
  | p, cs, 0, h => by rw [List.drop_zero]; exact chk_none h
  | p, [], k + 1, _ => by simp [chk]
  | p, c :: cs, k + 1, h => by
    rw [chk] at h
    rw [List.drop_succ_cons]
    split at h
    · cases h
    · split at h
      · cases h
      · exact chk_dropk _ cs k h
theorem chk_rises : ∀ (p : Option (List UInt8)) (cs : List Cel), chk p cs = 0 → RisesP cs
  | p, [], _ => by intro i hi; simp at hi
  | p, c :: cs, h => by
    rw [chk] at h
    split at h
    · cases h
    · split at h
      · cases h
      · intro i hi
        rcases i with _ | i
        · rcases cs with _ | ⟨d, ds⟩
          · simp at hi
          · rw [chk] at h
            split at h
            · cases h
            · split at h
              · cases h
              · rename_i h2
                simpa [sunk] using h2
        · have ih := chk_rises _ cs h i (by simpa using hi)
          simpa using ih
theorem varB_short {x : Nat} (h : x < 16384) : (varB x).length ≤ 2 := varB_le 1 x h
theorem celB_small {c : Cel} (h : c.1.length + c.2.length ≤ 480) : (celB c).length ≤ 484 := by
  unfold celB textB
  have h1 := varB_short (x := c.1.length) (by omega)
  have h2 := varB_short (x := c.2.length) (by omega)
  simp only [List.length_append]
  omega
theorem varB_one {x : Nat} (h : x < 128) : (varB x).length = 1 := by rw [varB_lo h]; rfl
theorem pgSz_few {next : Int} {cs : List Cel} (hn : next ≤ 256) (hf : cs.length ≤ 100) : pgSz next cs ≤ celsN cs + 8 ∧ celsN cs + 7 ≤ pgSz next cs := by
  unfold pgSz
  have h1 := varB_short (x := next.toNat) (by omega)
  have h2 := varB_len next.toNat
  have h3 := varB_one (x := cs.length) (by omega)
  omega
theorem pgChk_of {next : Int} {cs : List Cel} (h0 : 0 ≤ next) (h1 : next ≤ 256) (hc : chk none cs = 0) (hs : pgSz next cs ≤ 2048) : pgChk next cs = 0 := by
  unfold pgChk
  rw [if_neg (by omega), hc, if_neg (by simp), if_neg (by omega)]
theorem halves {next : Int} {cs : List Cel} {k : Nat} (hf : cs.length ≤ 100) (hc : pgChk next cs = 0) (hk : HalfAt cs k) :
    pgChk next (cs.take k) = 0 ∧ pgChk next (cs.drop k) = 0 ∧ pgSz next (cs.take k) + 490 ≤ 2048 ∧ pgSz next (cs.drop k) + 490 ≤ 2048 := by
  obtain ⟨h0, h1, hs⟩ := pgChk_ok hc
  have hch := pgChk_cells hc
  have hsm := chk_small none cs hch
  have z0 := pgSz_few (next := next) (cs := cs) h1 hf
  have za := pgSz_few (next := next) (cs := cs.take k) h1 (by rw [List.length_take]; omega)
  have zb := pgSz_few (next := next) (cs := cs.drop k) h1 (by rw [List.length_drop]; omega)
  have hsum : celsN cs = celsN (cs.take k) + celsN (cs.drop k) := by rw [← celsN_append, List.take_append_drop]
  have hlo := hk.lo
  have hhi := hk.hi
  obtain ⟨j, rfl⟩ : ∃ j, k = j + 1 := ⟨k - 1, by omega⟩
  have hj : j < cs.length := by omega
  have hstep := celsN_take_succ (cs := cs) hj
  have hcj := celB_small (hsm _ (List.getElem_mem hj))
  have ha : celsN (cs.take (j + 1)) ≤ 1504 := by
    rcases Nat.eq_zero_or_pos j with h | h
    · subst h
      rw [hstep]
      have : celsN (cs.take 0) = 0 := rfl
      omega
    · have := hk.less j h (by omega)
      omega
  have hb : celsN (cs.drop (j + 1)) ≤ 1021 := by
    rcases hk.stop with h | h
    · have e : cs.drop (j + 1) = [cs[j + 1]'(by omega)] ∨ cs.drop (j + 1) = [] := by
        rcases Nat.lt_or_ge (j + 1) cs.length with h2 | h2
        · left
          rw [List.drop_eq_getElem_cons h2, List.drop_eq_nil_of_le (by omega)]
        · right; exact List.drop_eq_nil_of_le (by omega)
      rcases e with e | e
      · rw [e, celsN_one]
        have := celB_small (hsm _ (List.getElem_mem (show j + 1 < cs.length by omega)))
        omega
      · rw [e]; simp [celsN]
    · omega
  exact ⟨pgChk_of h0 h1 (chk_take _ _ _ hch) (by omega), pgChk_of h0 h1 (chk_dropk _ _ _ hch) (by omega), by omega, by omega⟩
end Go.Proofs.YtlidbgidbpaenaaDoor
