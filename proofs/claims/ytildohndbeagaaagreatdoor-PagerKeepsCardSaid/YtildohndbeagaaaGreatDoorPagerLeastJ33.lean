/- What the proof of PagerLeast needs, part 33. -/
import Derived.Test.YtildohndbeagaaaGreatDoorPagerLeastJ31
import Derived.Test.YtildohndbeagaaaGreatDoorPagerLeastJ32

namespace Go.Proofs.YtildohndbeagaaaGreatDoor
open Go Go.RowKit
set_option linter.unusedVariables false

def rpR (l : List UInt8) : Nat → List UInt8
  | 0 => l
  | k + 1 => (numV (rpR l k)).2.1
def rpX (l : List UInt8) (k : Nat) : Nat := (numV (rpR l k)).1
def rpE (l : List UInt8) (k : Nat) : Nat := (numV (rpR l k)).2.2
/-- The array v, with k of its numbers read. -/
def rpC (l : List UInt8) (k : Nat) : Array Value := #[.int .u64 ((if 0 < k then rpX l 0 else 0 : Nat) : Int), .int .u64 ((if 1 < k then rpX l 1 else 0 : Nat) : Int), .int .u64 ((if 2 < k then rpX l 2 else 0 : Nat) : Int)]
theorem rpC_zero (l : List UInt8) : rpC l 0 = #[.int .u64 0, .int .u64 0, .int .u64 0] := rfl
theorem rpC_put (l : List UInt8) {k : Nat} (h : k < 3) : (rpC l k).setIfInBounds k (.int .u64 (rpX l k : Int)) = rpC l (k + 1) := by
  rcases k with _ | _ | _ | k
  · rfl
  · rfl
  · rfl
  · omega
theorem rpR_le (l : List UInt8) (k : Nat) : (rpR l k).length ≤ l.length := by
  induction k with
  | zero => exact Nat.le_refl _
  | succ k ih => exact Nat.le_trans (numV_le (rpR l k)).2.1 ih
theorem numV_e (l : List UInt8) : (numV l).2.2 ≠ 31 := by
  unfold numV
  cases h : getVarB l with
  | error er => rcases getV_errs l 0 0 er h with rfl | rfl <;> simp [rdErr]
  | ok xn => simp
theorem rdCount_bad {l : List UInt8} {e : Nat} {m : Int} (h : e ≠ 0) : rdCount l e m = (0, l, e) := by unfold rdCount; rw [if_pos h]
theorem rdCount_err {l : List UInt8} {m : Int} (h : (numV l).2.2 ≠ 0) : rdCount l 0 m = (0, l, (numV l).2.2) := by
  unfold rdCount numV at *
  cases hg : getVarB l with
  | error er => simp
  | ok xn => rw [hg] at h; simp at h
theorem rdCount_big {l : List UInt8} {m : Int} (h : (numV l).2.2 = 0) (hm : m < ((numV l).1 : Int)) : rdCount l 0 m = (0, l, 32) := by
  unfold rdCount numV at *
  cases hg : getVarB l with
  | error er =>
    rw [hg] at h
    have := (rdErr_le hg).2
    simp only at h
    omega
  | ok xn =>
    obtain ⟨x, k⟩ := xn
    rw [hg] at hm
    have hm : m < (x : Int) := hm
    rw [if_neg (by simp)]
    simp only
    rw [if_pos hm]
theorem rdCount_fit {l : List UInt8} {m : Int} (h : (numV l).2.2 = 0) (hm : ((numV l).1 : Int) ≤ m) : rdCount l 0 m = ((numV l).1, (numV l).2.1, 0) := by
  unfold rdCount numV at *
  cases hg : getVarB l with
  | error er =>
    rw [hg] at h
    have := (rdErr_le hg).2
    simp only at h
    omega
  | ok xn =>
    obtain ⟨x, k⟩ := xn
    rw [hg] at hm
    have hm : (x : Int) ≤ m := hm
    rw [if_neg (by simp)]
    simp only
    rw [if_neg (by omega)]
theorem rdEnd_bad {l : List UInt8} {e : Nat} (h : e ≠ 0) : rdEnd l e = e := by unfold rdEnd; rw [if_neg (fun h' => h h'.1)]
theorem pcOne_e {n : Nat} {s : PcSt} {x y z : Nat × List UInt8 × Nat} (hx : rdCount s.rest s.err 89 = x) (hy : rdCount x.2.1 x.2.2 ((n : Int) - 1) = y) (hz : rdCount y.2.1 y.2.2 2048 = z) (h0 : z.2.2 ≠ 0) (h1 : z.2.2 ≠ 31) : pcOne n s = none := by
  subst hx hy hz
  unfold pcOne
  simp only
  rw [if_pos]
  left
  rw [rdEnd_bad h0]
  exact ⟨h0, h1⟩
theorem pcOne_no0 {n : Nat} {s : PcSt} (h : s.err = 0) (h0 : rpE s.rest 0 ≠ 0) : pcOne n s = none := by
  refine pcOne_e (x := (0, s.rest, rpE s.rest 0)) (y := (0, s.rest, rpE s.rest 0)) (z := (0, s.rest, rpE s.rest 0)) (by rw [h]; exact rdCount_err (l := rpR s.rest 0) h0) (rdCount_bad h0) (rdCount_bad h0) h0 (numV_e _)
theorem pcOne_no0x {n : Nat} {s : PcSt} (h : s.err = 0) (h0 : rpE s.rest 0 = 0) (hx : 89 < rpX s.rest 0) : pcOne n s = none := by
  refine pcOne_e (x := (0, s.rest, 32)) (y := (0, s.rest, 32)) (z := (0, s.rest, 32)) (by rw [h]; exact rdCount_big (l := rpR s.rest 0) h0 (by have e : (numV (rpR s.rest 0)).1 = rpX s.rest 0 := rfl; omega)) (rdCount_bad (by simp)) (rdCount_bad (by simp)) (by simp) (by simp)
theorem pcOne_no1 {n : Nat} {s : PcSt} (h : s.err = 0) (h0 : rpE s.rest 0 = 0) (hx : rpX s.rest 0 ≤ 89) (h1 : rpE s.rest 1 ≠ 0) : pcOne n s = none := by
  refine pcOne_e (x := (rpX s.rest 0, rpR s.rest 1, 0)) (y := (0, rpR s.rest 1, rpE s.rest 1)) (z := (0, rpR s.rest 1, rpE s.rest 1)) (by rw [h]; exact rdCount_fit (l := rpR s.rest 0) h0 (by have e : (numV (rpR s.rest 0)).1 = rpX s.rest 0 := rfl; omega)) (rdCount_err h1) (rdCount_bad h1) h1 (numV_e _)
theorem pcOne_no1x {n : Nat} {s : PcSt} (h : s.err = 0) (h0 : rpE s.rest 0 = 0) (hx : rpX s.rest 0 ≤ 89) (h1 : rpE s.rest 1 = 0) (hy : n ≤ rpX s.rest 1) : pcOne n s = none := by
  refine pcOne_e (x := (rpX s.rest 0, rpR s.rest 1, 0)) (y := (0, rpR s.rest 1, 32)) (z := (0, rpR s.rest 1, 32)) (by rw [h]; exact rdCount_fit (l := rpR s.rest 0) h0 (by have e : (numV (rpR s.rest 0)).1 = rpX s.rest 0 := rfl; omega)) (rdCount_big (l := rpR s.rest 1) h1 (by have e : (numV (rpR s.rest 1)).1 = rpX s.rest 1 := rfl; omega)) (rdCount_bad (by simp)) (by simp) (by simp)
theorem pcOne_no2 {n : Nat} {s : PcSt} (h : s.err = 0) (h0 : rpE s.rest 0 = 0) (hx : rpX s.rest 0 ≤ 89) (h1 : rpE s.rest 1 = 0) (hy : rpX s.rest 1 < n) (h2 : rpE s.rest 2 ≠ 0) : pcOne n s = none := by
  refine pcOne_e (x := (rpX s.rest 0, rpR s.rest 1, 0)) (y := (rpX s.rest 1, rpR s.rest 2, 0)) (z := (0, rpR s.rest 2, rpE s.rest 2)) (by rw [h]; exact rdCount_fit (l := rpR s.rest 0) h0 (by have e : (numV (rpR s.rest 0)).1 = rpX s.rest 0 := rfl; omega)) (rdCount_fit (l := rpR s.rest 1) h1 (by have e : (numV (rpR s.rest 1)).1 = rpX s.rest 1 := rfl; omega)) (rdCount_err h2) h2 (numV_e _)
theorem pcOne_no2x {n : Nat} {s : PcSt} (h : s.err = 0) (h0 : rpE s.rest 0 = 0) (hx : rpX s.rest 0 ≤ 89) (h1 : rpE s.rest 1 = 0) (hy : rpX s.rest 1 < n) (h2 : rpE s.rest 2 = 0) (hz : 2048 < rpX s.rest 2) : pcOne n s = none := by
  refine pcOne_e (x := (rpX s.rest 0, rpR s.rest 1, 0)) (y := (rpX s.rest 1, rpR s.rest 2, 0)) (z := (0, rpR s.rest 2, 32)) (by rw [h]; exact rdCount_fit (l := rpR s.rest 0) h0 (by have e : (numV (rpR s.rest 0)).1 = rpX s.rest 0 := rfl; omega)) (rdCount_fit (l := rpR s.rest 1) h1 (by have e : (numV (rpR s.rest 1)).1 = rpX s.rest 1 := rfl; omega)) (rdCount_big (l := rpR s.rest 2) h2 (by have e : (numV (rpR s.rest 2)).1 = rpX s.rest 2 := rfl; omega)) (by simp) (by simp)
/-- One error, whatever it is, and there is none. -/
theorem pcOne_noE {n : Nat} {s : PcSt} (h : s.err = 0) {k : Nat} (hk : k < 3) (he : rpE s.rest k ≠ 0) : pcOne n s = none := by
  by_cases h0 : rpE s.rest 0 = 0
  · by_cases hx : rpX s.rest 0 ≤ 89
    · by_cases h1 : rpE s.rest 1 = 0
      · by_cases hy : rpX s.rest 1 < n
        · rcases k with _ | _ | _ | k
          · exact absurd h0 he
          · exact absurd h1 he
          · exact pcOne_no2 h h0 hx h1 hy he
          · omega
        · exact pcOne_no1x h h0 hx h1 (by omega)
      · exact pcOne_no1 h h0 hx h1
    · exact pcOne_no0x h h0 (by omega)
  · exact pcOne_no0 h h0
theorem pcOne_yes {n : Nat} {s : PcSt} (h : s.err = 0) (h0 : rpE s.rest 0 = 0) (hx : rpX s.rest 0 ≤ 89) (h1 : rpE s.rest 1 = 0) (hy : rpX s.rest 1 < n) (h2 : rpE s.rest 2 = 0) (hz : rpX s.rest 2 ≤ 2048) :
    pcOne n s = if (rpX s.rest 0 : Int) ≤ s.last ∨ (claimB s.used (rpX s.rest 1 : Int)).2 ≠ 0 then none else some ⟨rpR s.rest 3, 0, (rpX s.rest 0 : Int), (claimB s.used (rpX s.rest 1 : Int)).1, s.t.put (rpX s.rest 0 : Int) (rpX s.rest 1, rpX s.rest 2)⟩ := by
  have e1 : rdCount s.rest s.err 89 = (rpX s.rest 0, rpR s.rest 1, 0) := by rw [h]; exact rdCount_fit (l := rpR s.rest 0) h0 (by have e : (numV (rpR s.rest 0)).1 = rpX s.rest 0 := rfl; omega)
  have e2 : rdCount (rpR s.rest 1) 0 ((n : Int) - 1) = (rpX s.rest 1, rpR s.rest 2, 0) := rdCount_fit (l := rpR s.rest 1) h1 (by have e : (numV (rpR s.rest 1)).1 = rpX s.rest 1 := rfl; omega)
  have e3 : rdCount (rpR s.rest 2) 0 2048 = (rpX s.rest 2, rpR s.rest 3, 0) := rdCount_fit (l := rpR s.rest 2) h2 (by have e : (numV (rpR s.rest 2)).1 = rpX s.rest 2 := rfl; omega)
  unfold pcOne
  rw [e1]
  simp only
  rw [e2]
  simp only
  rw [e3]
  simp only
  have h4 := rdEnd_more (rpR s.rest 3)
  by_cases hc : (rpX s.rest 0 : Int) ≤ s.last ∨ (claimB s.used (rpX s.rest 1 : Int)).2 ≠ 0
  · rw [if_pos (.inr hc), if_pos hc]
  · rw [if_neg hc, if_neg]
    rintro (h5 | h5)
    · exact h4 h5
    · exact hc h5
theorem claimB_taken {u : List Bool} {p : Nat} (h0 : u.getD p false = true) : (claimB u (p : Int)).2 ≠ 0 := by
  unfold claimB
  rw [if_pos]
  · simp
  · rw [hasB_nat]
    exact .inr (.inr h0)
theorem rdNum_numV (l : List UInt8) : rdNum l 0 = numV l := by
  unfold rdNum numV rdErrP rdErr
  rw [if_neg (by simp)]
  cases getVarB l <;> rfl
theorem pgParse_bad {n : Nat} {body : List UInt8} (h : (numV body).2.2 ≠ 0 ∨ (numV (numV body).2.1).2.2 ≠ 0 ∨ 90 < (numV (numV body).2.1).1) : pgParse n body = none := by
  unfold pgParse pcInit
  rw [rdNum_numV]
  by_cases h0 : (numV body).2.2 = 0
  · rw [h0]
    by_cases h1 : (numV (numV body).2.1).2.2 = 0
    · have h2 : 90 < (numV (numV body).2.1).1 := by rcases h with h | h | h; exact absurd h0 h; exact absurd h1 h; exact h
      rw [rdCount_big h1 (by omega)]
      simp [pcLoop, rdEnd]
    · rw [rdCount_err h1]
      simp only [pcLoop]
      rw [rdEnd_bad h1, if_neg h1]
  · rw [rdCount_bad h0]
    simp only [pcLoop]
    rw [rdEnd_bad h0, if_neg h0]
theorem pgParse_go {n : Nat} {body : List UInt8} (h0 : (numV body).2.2 = 0) (h1 : (numV (numV body).2.1).2.2 = 0) (h2 : (numV (numV body).2.1).1 ≤ 90) :
    pgParse n body = match pcLoop n (numV (numV body).2.1).1 ⟨(numV (numV body).2.1).2.1, 0, -1, List.replicate n false, fun _ => none⟩ with | some s => if rdEnd s.rest s.err = 0 then some ((numV body).1, s.t) else none | none => none := by
  unfold pgParse pcInit
  rw [rdNum_numV, h0, rdCount_fit h1 (by omega)]
  rfl
/-- Which places are taken, as an array. -/
def tkB (u : List Bool) : Array Value := ((List.range 256).map fun i => Value.bool (u.getD i false)).toArray
theorem tkB_get (u : List Bool) {i : Nat} (h : i < 256) : (tkB u)[i]? = some (.bool (u.getD i false)) := by simp [tkB, h]
theorem tkB_put {u : List Bool} {p : Nat} (hp : p < u.length) (h0 : u.getD p false = false) : (tkB u).setIfInBounds p (.bool true) = tkB (flipAt u p) := by
  apply Array.ext_getElem?
  intro i
  by_cases hi : i = p
  · subst hi
    by_cases h2 : i < 256
    · rw [tkB_get _ h2, flip_self hp, h0]
      simp [tkB, h2]
    · simp [tkB, h2]
  · by_cases h2 : i < 256
    · rw [tkB_get _ h2, flip_get u p i hi, Array.getElem?_setIfInBounds_ne (Ne.symm hi), tkB_get _ h2]
    · simp [tkB, h2]
theorem ids_put {t : TF} {last : Int} {x : Nat} (hf : ∀ y, last < y → t y = none) (h1 : last < (x : Int)) (h2 : x ≤ 89) (v : Nat × Nat) : idsOf (t.put (x : Int) v) = idsOf t ++ [x] := by
  have hr : List.range 90 = List.range x ++ (x :: List.range' (x + 1) (89 - x)) := by
    rw [List.range_eq_range', show 90 = x + ((89 - x) + 1) by omega, ← List.range'_append_1, List.range_eq_range', Nat.zero_add, List.range'_succ]
  unfold idsOf
  rw [hr, List.filter_append, List.filter_append]
  have e1 : (List.range x).filter (fun i : Nat => (t.put (x : Int) v (i : Int)).isSome) = (List.range x).filter (fun i : Nat => (t (i : Int)).isSome) := by
    apply List.filter_congr
    intro i hi
    rw [List.mem_range] at hi
    unfold TF.put
    rw [if_neg (by omega)]
  have e2 : (x :: List.range' (x + 1) (89 - x)).filter (fun i : Nat => (t.put (x : Int) v (i : Int)).isSome) = [x] := by
    rw [List.filter_cons_of_pos (by unfold TF.put; rw [if_pos rfl]; rfl)]
    congr 1
    rw [List.filter_eq_nil_iff]
    intro i hi
    rw [List.mem_range'_1] at hi
    unfold TF.put
    rw [if_neg (by omega), hf _ (by omega)]
    simp
  have e3 : (x :: List.range' (x + 1) (89 - x)).filter (fun i : Nat => (t (i : Int)).isSome) = [] := by
    rw [List.filter_eq_nil_iff]
    intro i hi
    have : x ≤ i := by
      rcases List.mem_cons.1 hi with rfl | hi
      · exact Nat.le_refl _
      · rw [List.mem_range'_1] at hi; omega
    rw [hf _ (by omega)]
    simp
  rw [e1, e2, e3, List.append_nil]
/-- What holds behind some rows of the document's parse. -/
structure RpM (n cn j : Nat) (s0 s : PcSt) : Prop where
  all : pcLoop n cn s0 = pcLoop n (cn - j) s
  err : s.err = 0
  used : s.used.length = n
  fresh : ∀ x, s.last < x → s.t x = none
  last : ∀ x, s.last = x ↔ ((idsOf s.t).getLast?.map fun i : Nat => (i : Int)).getD (-1) = x
theorem RpM.next {n cn j : Nat} {s0 s s' : PcSt} (h : RpM n cn j s0 s) (hj : j < cn) (h0 : rpE s.rest 0 = 0) (hx : rpX s.rest 0 ≤ 89) (h1 : rpE s.rest 1 = 0) (hy : rpX s.rest 1 < n) (h2 : rpE s.rest 2 = 0) (hz : rpX s.rest 2 ≤ 2048)
    (hl : s.last < (rpX s.rest 0 : Int)) (hu : s.used.getD (rpX s.rest 1) false = false) (hs : s' = ⟨rpR s.rest 3, 0, (rpX s.rest 0 : Int), flipAt s.used (rpX s.rest 1), s.t.put (rpX s.rest 0 : Int) (rpX s.rest 1, rpX s.rest 2)⟩) :
    RpM n cn (j + 1) s0 s' ∧ idsOf s'.t = idsOf s.t ++ [rpX s.rest 0] ∧ tkB s'.used = (tkB s.used).setIfInBounds (rpX s.rest 1) (.bool true) := by
  have hp : rpX s.rest 1 < s.used.length := by rw [h.used]; exact hy
  have ho : pcOne n s = some s' := by
    rw [pcOne_yes h.err h0 hx h1 hy h2 hz, claimB_free hp hu, if_neg (by rintro (h | h); omega; exact h rfl), hs]
  have hi : idsOf s'.t = idsOf s.t ++ [rpX s.rest 0] := by rw [hs]; exact ids_put h.fresh hl hx _
  refine ⟨⟨?_, by rw [hs], by rw [hs]; simp only; rw [flipAt_length, h.used], fun x hx => ?_, fun x => ?_⟩, hi, ?_⟩
  · rw [h.all, show cn - j = (cn - (j + 1)) + 1 by omega]
    rw [pcLoop, ho]
  · rw [hs] at hx ⊢
    simp only at hx ⊢
    unfold TF.put
    rw [if_neg (by omega)]
    exact h.fresh x (by omega)
  · rw [hi, List.getLast?_concat, hs]
    rfl
  · rw [hs]
    exact (tkB_put hp hu).symm
theorem RpM.stop {n cn j : Nat} {s0 s : PcSt} (h : RpM n cn j s0 s) (hj : j < cn) (hn : pcOne n s = none) : pcLoop n cn s0 = none := by
  rw [h.all, show cn - j = (cn - (j + 1)) + 1 by omega, pcLoop, hn]
theorem RpM.start (n cn : Nat) (l : List UInt8) : RpM n cn 0 ⟨l, 0, -1, List.replicate n false, fun _ => none⟩ ⟨l, 0, -1, List.replicate n false, fun _ => none⟩ := by
  refine ⟨rfl, rfl, by simp, fun _ _ => rfl, fun x => ?_⟩
  have : idsOf (fun _ => none : TF) = [] := List.length_eq_zero_iff.1 ids_none
  simp only [this]
  rfl
theorem tkB_start (n : Nat) : tkB (List.replicate n false) = Array.replicate 256 (.bool false) := by
  apply Array.ext_getElem?
  intro i
  by_cases h2 : i < 256
  · rw [tkB_get _ h2]
    simp [h2, List.getD_eq_getElem?_getD, List.getElem?_replicate]
    split <;> rfl
  · simp [tkB, h2]
end Go.Proofs.YtildohndbeagaaaGreatDoor
