/- What the proof of PagePuts needs, part 20. -/
import Derived.Test.YtlidbgidbpaenaaDoorPagePutsJ18
import Derived.Test.YtlidbgidbpaenaaDoorPagePutsJ19

namespace Go.Proofs.YtlidbgidbpaenaaDoor
open Go Go.RowKit
set_option linter.unusedVariables false

theorem rdFlag_put (b : Bool) (s : List UInt8) : rdFlag (flagB b ++ s) 0 = (b, s, 0) := by
  unfold rdFlag flagB
  rw [if_neg (by simp)]
  cases b <;> rfl
theorem rdCount_put {x : Nat} (hx : x < U64) {m : Nat} (hm : x ≤ m) (s : List UInt8) : rdCount (varB x ++ s) 0 (m : Int) = (x, s, 0) := by
  unfold rdCount
  rw [if_neg (by simp), getVarB_varB hx]
  simp only [List.drop_left]
  rw [if_neg (by omega)]
theorem rdCells_put : ∀ (cs : List Cel) (s : List UInt8) (acc : List Cel), (∀ c ∈ cs, c.1.length ≤ 65536 ∧ c.2.length ≤ 65536) → rdCells cs.length (cs.flatMap celB ++ s, 0) acc = (acc ++ cs, (s, 0))
  | [], s, acc, _ => by simp [rdCells]
  | c :: cs, s, acc, h => by
    have hc := h c (by simp)
    have e : (c :: cs).flatMap celB ++ s = varB c.1.length ++ (c.1 ++ (varB c.2.length ++ (c.2 ++ (cs.flatMap celB ++ s)))) := by
      simp [celB, textB]
    rw [List.length_cons, rdCells, e]
    simp only
    rw [rdText_put hc.1]
    simp only
    rw [rdText_put hc.2]
    simp only
    rw [rdCells_put cs s _ (fun x hx => h x (by simp [hx]))]
    simp
theorem openB_sealB (f : List UInt8) : openB (sealB f) = .ok f := by
  have e : (sealB f).take ((sealB f).length - 4) = f := by
    rw [sealB_len, Nat.add_sub_cancel]
    unfold sealB
    rw [List.take_left]
  unfold openB
  rw [if_neg (by rw [sealB_len]; omega), e]
  exact if_pos rfl
theorem chk_small : ∀ (p : Option (List UInt8)) (cs : List Cel), chk p cs = 0 → ∀ c ∈ cs, c.1.length + c.2.length ≤ 480
  | p, [], _, c, hc => by cases hc
  | p, x :: xs, h, c, hc => by
    rw [chk] at h
    split at h
    · cases h
    · split at h
      · cases h
      · rcases List.mem_cons.1 hc with rfl | hc
        · omega
        · exact chk_small _ xs h c hc
theorem pgChk_cells {n : Int} {cs : List Cel} (h : pgChk n cs = 0) : chk none cs = 0 := by
  unfold pgChk at h
  split at h
  · cases h
  · split at h
    · rename_i h2; exact absurd h h2
    · rename_i h2; simpa using h2
/-- A page's bytes are the page again. -/
theorem pgOfB_bytes {b : Bool} {n : Nat} {cs : List Cel} (h : pgChk (n : Int) cs = 0) : pgOfB (sealB (pgF b (n : Int) cs)) = some (b, n, cs) := by
  have hsm := chk_small none cs (pgChk_cells h)
  obtain ⟨_, h256, hsz⟩ := pgChk_ok h
  have hn : n ≤ 256 := by omega
  have hlen : cs.length ≤ 2048 := by
    have h2 : cs.length ≤ celsN cs := by
      clear h hsz hsm
      induction cs with
      | nil => simp [celsN]
      | cons c cs ih =>
        have e : celsN (c :: cs) = (celB c).length + celsN cs := by simp [celsN]
        have h1 : 1 ≤ (celB c).length := by
          unfold celB textB
          have := varB_len c.1.length
          simp only [List.length_append]
          omega
        rw [e, List.length_cons]
        omega
    unfold pgSz at hsz
    omega
  unfold pgOfB
  rw [openB_sealB]
  simp only
  unfold pgIn
  have e : pgF b (n : Int) cs = flagB b ++ (varB n ++ (varB cs.length ++ (cs.flatMap celB ++ []))) := by
    unfold pgF flagB
    rw [List.append_nil]
    rfl
  rw [e, rdFlag_put]
  simp only
  rw [show (256 : Int) = ((256 : Nat) : Int) from rfl, rdCount_put (by unfold U64; omega) hn]
  simp only
  rw [show (2048 : Int) = ((2048 : Nat) : Int) from rfl, rdCount_put (by unfold U64; omega) hlen]
  simp only
  rw [rdCells_put cs [] [] (fun c hc => by have := hsm c hc; omega)]
  simp only [List.nil_append]
  rw [if_pos ⟨by simp [rdEnd], h⟩]

theorem exF : pgF true 7 exC = [1, 7, 2, 1, 97, 1, 49, 1, 99, 1, 50] := by
  unfold pgF exC
  simp [celB, textB, varB_lo]
theorem exSz : pgSz 7 exC = 15 := by
  have := pgF_len true 7 exC
  rw [exF] at this
  exact this.symm
theorem exChk : pgChk 7 exC = 0 := by
  unfold pgChk
  rw [if_neg (by decide), exSz, show chk none exC = 0 by (simp [exC, chk, sunk]; decide)]
  rfl
theorem exFew : Few exC := ⟨by decide, by decide⟩
theorem exRises : RisesP exC := by
  intro i hi
  obtain rfl : i = 0 := by have : exC.length = 2 := rfl; omega
  rfl
theorem exFind : findK exC [98] = 1 ∧ isK exC [98] = false := by
  constructor
  · decide
  · decide
theorem exHalf {k : Nat} (h : HalfAt exC k) : k = 1 := by
  have h1 := h.lo
  have h2 := h.hi
  have : exC.length = 2 := rfl
  omega
end Go.Proofs.YtlidbgidbpaenaaDoor
