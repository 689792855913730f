/- What the proof of PagerLeast needs, part 38. -/
import Derived.Test.YtildohndbeagaaaGreatDoorPagerLeastJ37

namespace Go.Proofs.YtildohndbeagaaaGreatDoor
open Go Go.RowKit
set_option linter.unusedVariables false

structure Rpg where
  places : Int
  tag : Nat
  oldHas : Nat → Bool
  has : Nat → Bool
  wrote : Nat → Bool
  old : Nat → List UInt8
  now : Nat → List UInt8
def updN {α : Type} (f : Nat → α) (i : Nat) (v : α) : Nat → α := fun j => if j = i then v else f j
namespace Rpg
def new (n : Int) : Rpg := ⟨n, 0, fun _ => false, fun _ => false, fun _ => false, fun _ => [], fun _ => []⟩
def put (R : Rpg) (i : Nat) (b : List UInt8) : Rpg := { R with has := updN R.has i true, wrote := updN R.wrote i true, now := updN R.now i b }
def write (R : Rpg) (x : Int) (b : List UInt8) : Rpg := if pgWhy x b = 0 then R.put x.toNat b else R
def inn (R : Rpg) (x : Int) : Bool := decide (0 ≤ x ∧ x < 90) && R.has x.toNat
def away (R : Rpg) (i : Nat) : Rpg := { R with has := updN R.has i false, wrote := updN R.wrote i false, now := updN R.now i [] }
def free (R : Rpg) (x : Int) : Rpg := if R.inn x then R.away x.toNat else R
def least (R : Rpg) : Option Nat := (List.range 90).find? fun i => !R.has i
def alloc (R : Rpg) (b : List UInt8) : Rpg × Nat × Nat := if 2048 < b.length then (R, 0, 132) else match R.least with
  | some i => (R.put i b, i, 0)
  | none => (R, 0, 133)
def cnt (f : Nat → Bool) (i : Nat) : Nat := ((List.range i).filter f).length
def full (R : Rpg) : Bool := decide (R.places - (cnt R.oldHas 90 : Int) < (cnt R.wrote 90 : Int))
def kept (R : Rpg) (tag : Nat) : Rpg := { R with tag := tag, oldHas := R.has, old := R.now, wrote := fun _ => false }
def commit (R : Rpg) (tag : Nat) : Rpg := if R.full then R else R.kept tag
def drop (R : Rpg) : Rpg := { R with has := R.oldHas, now := R.old, wrote := fun _ => false }
theorem cnt_le (f : Nat → Bool) (i : Nat) : cnt f i ≤ i := by
  unfold cnt
  have := List.length_filter_le f (List.range i)
  rwa [List.length_range] at this
theorem cnt_succ (f : Nat → Bool) (i : Nat) : cnt f (i + 1) = cnt f i + (if f i then 1 else 0) := by
  unfold cnt
  rw [List.range_succ, List.filter_append, List.length_append]
  cases h : f i <;> simp [h]
theorem cnt_zero (f : Nat → Bool) : cnt f 0 = 0 := rfl
end Rpg
/-- The cells of such a value. -/
structure Rc (R : Rpg) (cs : Array Value) : Prop where
  size : cs.size = 452
  places : cs[0]? = some (.int .i64 R.places)
  tag : cs[1]? = some (.int .u64 (R.tag : Int))
  oh : ∀ i : Nat, i < 90 → cs[2 + i]? = some (.bool (R.oldHas i))
  h : ∀ i : Nat, i < 90 → cs[92 + i]? = some (.bool (R.has i))
  wr : ∀ i : Nat, i < 90 → cs[182 + i]? = some (.bool (R.wrote i))
  old : ∀ i : Nat, i < 90 → cs[272 + i]? = some (.string (st (R.old i)))
  now : ∀ i : Nat, i < 90 → cs[362 + i]? = some (.string (st (R.now i)))
section
variable {R : Rpg} {cs : Array Value}
theorem Rc.one (h : Rc R cs) : cs.all (·.oneCell') = true := by
  rw [Array.all_eq_true]
  intro i hi
  have h1 : cs[i]? = some cs[i] := Array.getElem?_eq_getElem hi
  have hs := h.size
  have key : ∀ v : Value, cs[i]? = some v → v.oneCell' = true → cs[i].oneCell' = true := fun v hv ho => by
    rw [h1] at hv
    rw [Option.some.inj hv]; exact ho
  rcases Nat.lt_or_ge i 2 with h2 | h2
  · rcases Nat.lt_or_ge i 1 with h3 | h3
    · obtain rfl : i = 0 := by omega
      exact key _ h.places rfl
    · obtain rfl : i = 1 := by omega
      exact key _ h.tag rfl
  rcases Nat.lt_or_ge i 92 with h3 | h3
  · obtain ⟨j, rfl⟩ : ∃ j, i = 2 + j := ⟨i - 2, by omega⟩
    exact key _ (h.oh j (by omega)) rfl
  rcases Nat.lt_or_ge i 182 with h4 | h4
  · obtain ⟨j, rfl⟩ : ∃ j, i = 92 + j := ⟨i - 92, by omega⟩
    exact key _ (h.h j (by omega)) rfl
  rcases Nat.lt_or_ge i 272 with h5 | h5
  · obtain ⟨j, rfl⟩ : ∃ j, i = 182 + j := ⟨i - 182, by omega⟩
    exact key _ (h.wr j (by omega)) rfl
  rcases Nat.lt_or_ge i 362 with h6 | h6
  · obtain ⟨j, rfl⟩ : ∃ j, i = 272 + j := ⟨i - 272, by omega⟩
    exact key _ (h.old j (by omega)) rfl
  · obtain ⟨j, rfl⟩ : ∃ j, i = 362 + j := ⟨i - 362, by omega⟩
    exact key _ (h.now j (by omega)) rfl
theorem getElem?_set3 {cs : Array Value} {a b c k : Nat} (x y z : Value) (h1 : k ≠ a) (h2 : k ≠ b) (h3 : k ≠ c) : (((cs.setIfInBounds a x).setIfInBounds b y).setIfInBounds c z)[k]? = cs[k]? := by
  rw [Array.getElem?_setIfInBounds_ne (fun e => h3 e.symm), Array.getElem?_setIfInBounds_ne (fun e => h2 e.symm), Array.getElem?_setIfInBounds_ne (fun e => h1 e.symm)]
/-- Has, Wrote and Now of one page are put anew. -/
theorem Rc.set3 (h : Rc R cs) {i : Nat} (hi : i < 90) (x y : Bool) (b : List UInt8) :
    Rc { R with has := updN R.has i x, wrote := updN R.wrote i y, now := updN R.now i b } (((cs.setIfInBounds (92 + i) (.bool x)).setIfInBounds (182 + i) (.bool y)).setIfInBounds (362 + i) (.string (st b))) := by
  have hs := h.size
  refine ⟨by simp [hs], by rw [getElem?_set3 _ _ _ (by omega) (by omega) (by omega)]; exact h.places, by rw [getElem?_set3 _ _ _ (by omega) (by omega) (by omega)]; exact h.tag, fun j hj => ?_, fun j hj => ?_, fun j hj => ?_, fun j hj => ?_, fun j hj => ?_⟩
  · rw [getElem?_set3 _ _ _ (by omega) (by omega) (by omega)]; exact h.oh j hj
  · by_cases e : j = i
    · subst e
      rw [Array.getElem?_setIfInBounds_ne (by omega), Array.getElem?_setIfInBounds_ne (by omega), Array.getElem?_setIfInBounds_self, if_pos (by omega)]
      simp [updN]
    · rw [getElem?_set3 _ _ _ (by omega) (by omega) (by omega), h.h j hj]
      simp [updN, e]
  · by_cases e : j = i
    · subst e
      rw [Array.getElem?_setIfInBounds_ne (by omega), Array.getElem?_setIfInBounds_self, if_pos (by simp; omega)]
      simp [updN]
    · rw [getElem?_set3 _ _ _ (by omega) (by omega) (by omega), h.wr j hj]
      simp [updN, e]
  · rw [getElem?_set3 _ _ _ (by omega) (by omega) (by omega)]; exact h.old j hj
  · by_cases e : j = i
    · subst e
      rw [Array.getElem?_setIfInBounds_self, if_pos (by simp; omega)]
      simp [updN]
    · rw [getElem?_set3 _ _ _ (by omega) (by omega) (by omega), h.now j hj]
      simp [updN, e]
end
theorem rc_new (n : Int) : Rc (Rpg.new n) (new13 n) := by
  refine ⟨new13_size n, ?_, new13_tag n, fun i hi => new13_flag n (by omega) (by omega), fun i hi => new13_flag n (by omega) (by omega), fun i hi => new13_flag n (by omega) (by omega), fun i hi => ?_, fun i hi => ?_⟩
  · unfold new13
    rw [Array.getElem?_setIfInBounds_self, if_pos (by rw [show Tryz.zeroCells35.size = 452 by kernel_rfl]; omega)]
    rfl
  · unfold new13
    rw [Array.getElem?_setIfInBounds_ne (by omega), zero13, Array.getElem?_append, if_neg (by simp; omega), Array.getElem?_append, if_neg (by simp; omega), Array.getElem?_replicate, if_pos (by simp; omega)]
    rfl
  · unfold new13
    rw [Array.getElem?_setIfInBounds_ne (by omega), zero13, Array.getElem?_append, if_neg (by simp; omega), Array.getElem?_append, if_neg (by simp; omega), Array.getElem?_replicate, if_pos (by simp; omega)]
    rfl

/-! ### The two pagers alike -/
structure Al (P : Pgr) (c : Int → List UInt8) (R : Rpg) : Prop where
  places : R.places = (P.n : Int)
  tag : R.tag = P.tag
  has : ∀ i : Nat, i < 90 → R.has i = P.has (i : Int)
  now : ∀ i : Nat, i < 90 → P.has (i : Int) = true → R.now i = (P.page c (i : Int)).getD []
  wrote : ∀ i : Nat, i < 90 → R.wrote i = (P.wr (i : Int)).isSome
  oldHas : ∀ i : Nat, i < 90 → R.oldHas i = (P.tb (i : Int)).isSome
  old : ∀ i : Nat, i < 90 → (P.tb (i : Int)).isSome = true → R.old i = c (i : Int)
section
variable {P : Pgr} {c : Int → List UInt8} {R : Rpg} {cs : Array Value}
theorem Al.lk (h : Al P c R) (hc : Rc R cs) : Lk P c cs :=
  ⟨hc.size, by rw [hc.tag, h.tag], fun i hi => by rw [hc.h i hi, h.has i hi], fun i hi hh => by rw [hc.now i hi, h.now i hi hh]⟩
theorem Al.new (D : Dsk) (a : Int) (n : Nat) (num : Nat) (last : Int) (c : Int → List UInt8) : Al (pgNew D a n num last (0, fun _ => none)) c (Rpg.new n) :=
  ⟨rfl, rfl, fun i hi => rfl, fun i hi h => (by cases h), fun i hi => rfl, fun i hi => rfl, fun i hi h => (by cases h)⟩
theorem has_put (P : Pgr) (x y : Int) (b : List UInt8) : (P.put x b).has y = if y = x then true else P.has y := by
  unfold Pgr.put Pgr.has SF.put gnPut
  simp only
  split <;> simp
theorem page_put (P : Pgr) (c : Int → List UInt8) (x y : Int) (b : List UInt8) : (P.put x b).page c y = if y = x then some b else P.page c y := by
  unfold Pgr.page
  rw [has_put]
  unfold Pgr.put SF.put
  simp only
  split <;> simp
theorem Al.put (h : Al P c R) {i : Nat} (hi : i < 90) (b : List UInt8) : Al (P.put (i : Int) b) c (R.put i b) := by
  refine ⟨h.places, h.tag, fun j hj => ?_, fun j hj hh => ?_, fun j hj => ?_, h.oldHas, h.old⟩
  · rw [has_put]
    show updN R.has i true j = _
    unfold updN
    by_cases e : j = i
    · rw [if_pos e, if_pos (by rw [e])]
    · rw [if_neg e, if_neg (by omega), h.has j hj]
  · rw [has_put] at hh
    rw [page_put]
    show updN R.now i b j = _
    unfold updN
    by_cases e : j = i
    · rw [if_pos e, if_pos (by rw [e])]; rfl
    · rw [if_neg (by omega)] at hh
      rw [if_neg e, if_neg (by omega), h.now j hj hh]
  · show updN R.wrote i true j = ((P.wr.put (i : Int) b) (j : Int)).isSome
    unfold updN SF.put
    by_cases e : j = i
    · rw [if_pos e, if_pos (by rw [e])]; rfl
    · rw [if_neg e, if_neg (by omega), h.wrote j hj]
theorem Al.write (h : Al P c R) (x : Int) (b : List UInt8) : Al (P.write x b) c (R.write x b) := by
  unfold Pgr.write Rpg.write
  split
  · rename_i hw
    have hx := pgWhy_zero hw
    have := h.put (i := x.toNat) (by omega) b
    rwa [show ((x.toNat : Nat) : Int) = x by omega] at this
  · exact h
theorem Al.inn (h : Al P c R) (pk : Pk P c) (x : Int) : R.inn x = P.has x := by
  unfold Rpg.inn
  by_cases hx : 0 ≤ x ∧ x < 90
  · rw [decide_eq_true hx, Bool.true_and, h.has _ (by omega), show ((x.toNat : Nat) : Int) = x by omega]
  · rw [decide_eq_false hx, Bool.false_and]
    cases hh : P.has x with
    | false => rfl
    | true => exact absurd (pk.has90 hh) hx
theorem Al.free (h : Al P c R) (pk : Pk P c) (x : Int) : Al (P.free x) c (R.free x) := by
  have hi := h.inn pk x
  unfold Pgr.free Rpg.free
  rw [hi]
  split
  · rename_i hh
    have h9 := pk.has90 hh
    have e0 : ((x.toNat : Nat) : Int) = x := by omega
    have hhas : ∀ y : Int, ({ P with wr := P.wr.del x, gn := gnPut P.gn x true } : Pgr).has y = if y = x then false else P.has y := fun y => by
      unfold Pgr.has SF.del gnPut
      simp only
      split <;> simp
    refine ⟨h.places, h.tag, fun j hj => ?_, fun j hj hh2 => ?_, fun j hj => ?_, h.oldHas, h.old⟩
    · rw [hhas]
      show updN R.has x.toNat false j = _
      unfold updN
      by_cases e : j = x.toNat
      · rw [if_pos e, if_pos (by omega)]
      · rw [if_neg e, if_neg (by omega), h.has j hj]
    · rw [hhas] at hh2
      have hne : ¬ (j : Int) = x := fun e => by rw [if_pos e] at hh2; cases hh2
      rw [if_neg hne] at hh2
      show updN R.now x.toNat [] j = _
      unfold updN
      rw [if_neg (by omega), h.now j hj hh2]
      unfold Pgr.page
      rw [hhas, if_neg hne, hh2]
      unfold SF.del
      simp only [if_true]
      rw [if_neg hne]
    · show updN R.wrote x.toNat false j = ((P.wr.del x) (j : Int)).isSome
      unfold updN SF.del
      by_cases e : j = x.toNat
      · rw [if_pos e, if_pos (by omega)]; rfl
      · rw [if_neg e, if_neg (by omega), h.wrote j hj]
  · exact h
theorem find_congr {f g : Nat → Bool} : ∀ (l : List Nat), (∀ i ∈ l, f i = g i) → l.find? f = l.find? g
  | [], _ => rfl
  | a :: l, h => by
    rw [List.find?_cons, List.find?_cons, h a (by simp), find_congr l fun i hi => h i (by simp [hi])]
theorem Al.least (h : Al P c R) : R.least = P.least := find_congr _ fun i hi => by rw [h.has i (List.mem_range.1 hi)]
theorem Al.alloc (h : Al P c R) (b : List UInt8) : Al (P.alloc b).1 c (R.alloc b).1 ∧ (R.alloc b).2 = (P.alloc b).2 := by
  unfold Pgr.alloc Rpg.alloc
  rw [h.least]
  split
  · exact ⟨h, rfl⟩
  · cases hl : P.least with
    | none => exact ⟨h, rfl⟩
    | some i => exact ⟨h.put (Pk.least_lt hl).1 b, rfl⟩
theorem Al.drop (h : Al P c R) : Al P.drop c R.drop := by
  have hhas : ∀ y, P.drop.has y = (P.tb y).isSome := fun y => by simp [Pgr.drop, Pgr.has]
  refine ⟨h.places, h.tag, fun j hj => ?_, fun j hj hh => ?_, fun j hj => rfl, h.oldHas, h.old⟩
  · rw [hhas]; exact h.oldHas j hj
  · rw [hhas] at hh
    show R.old j = _
    rw [h.old j hj hh]
    unfold Pgr.page
    rw [hhas, hh]
    rfl
theorem cnt_ids {α : Type} {f : Nat → Bool} {g : Int → Option α} (h : ∀ i : Nat, i < 90 → f i = (g (i : Int)).isSome) : Rpg.cnt f 90 = (idsOf g).length := by
  unfold Rpg.cnt idsOf
  congr 1
  refine List.filter_congr fun i hi => ?_
  exact h i (List.mem_range.1 hi)
theorem Al.full (h : Al P c R) (pk : Pk P c) : R.full = decide (P.next = none) := by
  have h1 := next_iff pk.kp.tok
  unfold Rpg.full
  rw [cnt_ids h.oldHas, cnt_ids h.wrote, h.places]
  refine decide_eq_decide.2 ?_
  cases hn : P.next with
  | none =>
    rw [hn] at h1
    simp only [Option.isSome_none, Bool.false_eq_true, false_iff] at h1
    simp only [iff_true]
    omega
  | some t =>
    rw [hn] at h1
    simp only [Option.isSome_some, true_iff] at h1
    simp only [reduceCtorEq, iff_false]
    omega
/-- Once all stays. -/
theorem Al.kept (h : Al P c R) (pk : Pk P c) {t : TF} (ht : P.next = some t) (D' : Dsk) (num : Nat) (last : Int) (tag : Nat) :
    Al ⟨D', P.a, P.n, num, last, tag, t, fun _ => none, fun _ => false⟩ (newC P c) (R.kept tag) := by
  obtain ⟨-, n2, -, -⟩ := next_ok pk.kp.tok pk.w90 pk.wlen ht
  have hh : ∀ y : Int, (t y).isSome = P.has y := n2
  have hhas : ∀ y, (⟨D', P.a, P.n, num, last, tag, t, fun _ => none, fun _ => false⟩ : Pgr).has y = P.has y := fun y => by
    rw [← hh]
    simp [Pgr.has]
  have hold : ∀ j : Nat, j < 90 → P.has (j : Int) = true → R.now j = newC P c (j : Int) := fun j hj hp => by
    rw [h.now j hj hp]
    unfold Pgr.page newC
    rw [hp]
    rfl
  refine ⟨h.places, rfl, fun j hj => ?_, fun j hj hp => ?_, fun j hj => rfl, fun j hj => ?_, fun j hj hp => ?_⟩
  · rw [hhas]; exact h.has j hj
  · rw [hhas] at hp
    show R.now j = _
    rw [hold j hj hp]
    unfold Pgr.page
    rw [hhas, hp]
    rfl
  · show R.has j = (t (j : Int)).isSome
    rw [hh]; exact h.has j hj
  · show R.now j = _
    exact hold j hj (by rw [← hh]; exact hp)
end
end Go.Proofs.YtildohndbeagaaaGreatDoor
