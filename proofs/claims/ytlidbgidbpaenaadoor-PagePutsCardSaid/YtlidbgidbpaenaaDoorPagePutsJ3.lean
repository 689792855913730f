/- What the proof of PagePuts needs, part 3. -/
import Derived.Test.YtlidbgidbpaenaaDoorPagePutsJ1
import Derived.Test.YtlidbgidbpaenaaDoorPagePutsJ2

namespace Go.Proofs.YtlidbgidbpaenaaDoor
open Go
set_option linter.unusedVariables false

/-- A cell: its key, its value. -/
abbrev Cel := List UInt8 × List UInt8
def celB (c : Cel) : List UInt8 := textB c.1 ++ textB c.2
def celsN (cs : List Cel) : Nat := (cs.flatMap celB).length
theorem celsN_nil : celsN [] = 0 := rfl
theorem celsN_append (a b : List Cel) : celsN (a ++ b) = celsN a + celsN b := by simp [celsN]
theorem celsN_one (c : Cel) : celsN [c] = (celB c).length := by simp [celsN]
theorem celsN_take_succ {cs : List Cel} {i : Nat} (h : i < cs.length) : celsN (cs.take (i + 1)) = celsN (cs.take i) + (celB cs[i]).length := by
  rw [List.take_succ_eq_append_getElem h, celsN_append, celsN_one]
theorem celsN_le {cs : List Cel} {i : Nat} : celsN (cs.take i) ≤ celsN cs := by
  have h : celsN cs = celsN (cs.take i) + celsN (cs.drop i) := by rw [← celsN_append, List.take_append_drop]
  omega
/-- Not too great: few cells, of few bytes. -/
def Few (cs : List Cel) : Prop := cs.length ≤ 100 ∧ ∀ c ∈ cs, c.1.length ≤ 600 ∧ c.2.length ≤ 600
theorem textB_len' (s : List UInt8) (h : s.length ≤ 65536) : (textB s).length = (varB s.length).length + s.length := by unfold textB; rw [List.length_append]
theorem celB_le {c : Cel} (h : c.1.length ≤ 65536 ∧ c.2.length ≤ 65536) : (celB c).length ≤ 131092 := by
  unfold celB
  have h1 := textB_len h.1
  have h2 := textB_len h.2
  rw [List.length_append]
  omega
theorem celsN_bound (cs : List Cel) (h : ∀ c ∈ cs, c.1.length ≤ 65536 ∧ c.2.length ≤ 65536) : celsN cs ≤ 131092 * cs.length := by
  induction cs with
  | nil => simp [celsN]
  | cons c cs ih =>
    have h1 := celB_le (h c (by simp))
    have h2 := ih (fun x hx => h x (by simp [hx]))
    have e : celsN (c :: cs) = (celB c).length + celsN cs := by simp [celsN]
    rw [e, List.length_cons]
    omega

/-- A page's fields; its size; its bytes. -/
def pgF (leaf : Bool) (next : Int) (cs : List Cel) : List UInt8 := (if leaf then [1] else [0]) ++ (varB next.toNat ++ (varB cs.length ++ cs.flatMap celB))
def pgSz (next : Int) (cs : List Cel) : Nat := 1 + (varB next.toNat).length + (varB cs.length).length + celsN cs + 4
def sealB (l : List UInt8) : List UInt8 := l ++ beB (sumOf l).toNat 4
theorem sealB_len (l : List UInt8) : (sealB l).length = l.length + 4 := by unfold sealB; rw [List.length_append, beB_length]
theorem pgF_len (leaf : Bool) (next : Int) (cs : List Cel) : (pgF leaf next cs).length + 4 = pgSz next cs := by
  unfold pgF pgSz celsN
  cases leaf
  · simp only [Bool.false_eq_true, if_false, List.length_append, List.length_cons, List.length_nil]; omega
  · simp only [if_true, List.length_append, List.length_cons, List.length_nil]; omega

/-- Why some cells may not be: a cell too great, or keys that don't rise. -/
def sunk (prev : Option (List UInt8)) (k : List UInt8) : Bool := match prev with
  | some p => !Op.bytesLess p k
  | none => false
def chk (prev : Option (List UInt8)) (cs : List Cel) : Nat := match cs with
  | [] => 0
  | c :: cs => if 480 < c.1.length + c.2.length then 100 else if sunk prev c.1 = true then 101 else chk (some c.1) cs
def prevAt (cs : List Cel) (i : Nat) : Option (List UInt8) := if i = 0 then none else (cs[i - 1]?).map (·.1)
theorem chk_drop {cs : List Cel} {i : Nat} (h : i < cs.length) : chk (prevAt cs i) (cs.drop i) =
    if 480 < cs[i].1.length + cs[i].2.length then 100 else if sunk (prevAt cs i) cs[i].1 = true then 101 else chk (prevAt cs (i + 1)) (cs.drop (i + 1)) := by
  rw [List.drop_eq_getElem_cons h, chk]
  have e : prevAt cs (i + 1) = some cs[i].1 := by
    unfold prevAt
    rw [if_neg (by omega), Nat.add_sub_cancel, List.getElem?_eq_getElem h]
    rfl
  rw [e]
theorem chk_end (cs : List Cel) (p : Option (List UInt8)) : chk p (cs.drop cs.length) = 0 := by rw [List.drop_length, chk]
theorem chk_vals : ∀ (p : Option (List UInt8)) (cs : List Cel), chk p cs = 0 ∨ chk p cs = 100 ∨ chk p cs = 101
  | _, [] => .inl (by rw [chk])
  | p, c :: cs => by
    rw [chk]
    split
    · exact .inr (.inl rfl)
    · split
      · exact .inr (.inr rfl)
      · exact chk_vals _ cs
/-- Why a page may not be. -/
def pgChk (next : Int) (cs : List Cel) : Nat :=
  if next < 0 ∨ 256 < next then 101 else if chk none cs ≠ 0 then chk none cs else if 2048 < pgSz next cs then 100 else 0
end Go.Proofs.YtlidbgidbpaenaaDoor
