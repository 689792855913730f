/- The disk: plain functions and their laws. -/
import Derived.Test.YtpmndmgfoiagnaaDoorMapI
import Derived.Test.YtpmndmgfoiagnaaDoorStr
namespace Go.Proofs.YtpmndmgfoiagnaaDoor
open Go
set_option linter.unusedVariables false

/-- Sectors: what each one holds that is in use. -/
abbrev SF := Int → Option (List UInt8)
/-- A write, or a free, that wasn't synced. -/
inductive Pnd where
  | wr (at_ : Int) (b : List UInt8)
  | fr (at_ : Int)
structure Dsk where
  size : Int
  limit : Int
  view : SF
  nv : Nat
  ground : SF
  ng : Nat
  pend : List Pnd

def SF.put (f : SF) (a : Int) (b : List UInt8) : SF := fun x => if x = a then some b else f x
def SF.del (f : SF) (a : Int) : SF := fun x => if x = a then none else f x
def SF.nPut (f : SF) (n : Nat) (a : Int) : Nat := if (f a).isSome then n else n + 1
def SF.nDel (f : SF) (n : Nat) (a : Int) : Nat := if (f a).isSome then n - 1 else n
/-- What a write of b leaves of which n bytes are done, where old stood. -/
def tornB (b old : List UInt8) (n : Int) : List UInt8 :=
  if n.toNat < b.length then b.take n.toNat ++ old.drop n.toNat else b
def doP (s : SF × Nat) (p : Pnd) (n : Int) : SF × Nat := match p with
  | .wr a b => (s.1.put a (tornB b ((s.1 a).getD []) n), s.1.nPut s.2 a)
  | .fr a => (s.1.del a, s.1.nDel s.2 a)
/-- What the k-th pending write keeps at a crash. -/
def keptN (l : List (Int × Int)) (k : Nat) : Option Int := (l.find? fun x => x.1 == (k : Int)).map (·.2)
def crashF (l : List (Int × Int)) : Nat → List Pnd → SF × Nat → SF × Nat
  | _, [], s => s
  | k, p :: ps, s => crashF l (k + 1) ps (match keptN l k with | some n => doP s p n | none => s)

def Dsk.new (n : Int) : Dsk := ⟨n, n, fun _ => none, 0, fun _ => none, 0, []⟩
def Dsk.put (D : Dsk) (p : Pnd) (n : Int) : Dsk := { D with view := (doP (D.view, D.nv) p n).1, nv := (doP (D.view, D.nv) p n).2, pend := D.pend ++ [p] }
/-- Why a write may not be. -/
def Dsk.why (D : Dsk) (a : Int) (b : List UInt8) : Nat :=
  if a < 0 ∨ D.size ≤ a then 61 else if 512 < b.length then 62 else if (D.view a).isNone ∧ D.limit ≤ (D.nv : Int) then 63 else 0
def Dsk.write (D : Dsk) (a : Int) (b : List UInt8) : Dsk := if D.why a b = 0 then D.put (.wr a b) b.length else D
def Dsk.free (D : Dsk) (a : Int) : Dsk := if (D.view a).isSome then D.put (.fr a) 0 else D
def Dsk.sync (D : Dsk) : Dsk := { D with ground := D.view, ng := D.nv, pend := [] }
def Dsk.crash (D : Dsk) (l : List (Int × Int)) : Dsk :=
  { D with ground := (crashF l 0 D.pend (D.ground, D.ng)).1, ng := (crashF l 0 D.pend (D.ground, D.ng)).2, view := (crashF l 0 D.pend (D.ground, D.ng)).1, nv := (crashF l 0 D.pend (D.ground, D.ng)).2, pend := [] }

theorem tornB_all (b old : List UInt8) : tornB b old b.length = b := by unfold tornB; rw [if_neg (by simp)]

/-- A list of sectors that holds just what f says, n of them. -/
structure FinL (f : SF) (n : Nat) (l : List (Int × List UInt8)) : Prop where
  nodup : (l.map (·.1)).Nodup
  len : l.length = n
  look : ∀ a, (l.find? fun x => x.1 == a).map (·.2) = f a
theorem FinL.nil : FinL (fun _ => none) 0 [] := ⟨by simp, rfl, fun _ => rfl⟩
theorem FinL.has {f : SF} {n : Nat} {l : List (Int × List UInt8)} (h : FinL f n l) (a : Int) : (f a).isSome = true ↔ a ∈ l.map (·.1) := by
  rw [← h.look a]
  constructor
  · intro hs
    cases hf : l.find? (fun x => x.1 == a) with
    | none => rw [hf] at hs; cases hs
    | some x =>
      have h1 := List.mem_of_find?_eq_some hf
      have h2 := List.find?_some hf
      simp only [beq_iff_eq] at h2
      exact List.mem_map.2 ⟨x, h1, h2⟩
  · intro hm
    obtain ⟨x, hx, rfl⟩ := List.mem_map.1 hm
    cases hf : l.find? (fun y => y.1 == x.1) with
    | some y => rfl
    | none => have := List.find?_eq_none.1 hf x hx; simp at this
theorem find_filter_ne {l : List (Int × List UInt8)} {a x : Int} (hne : x ≠ a) : (l.filter fun y => y.1 != a).find? (fun y => y.1 == x) = l.find? fun y => y.1 == x := by
  induction l with
  | nil => rfl
  | cons y r ih =>
    by_cases hy : y.1 = a
    · rw [List.filter_cons_of_neg (by simp [hy]), ih, List.find?_cons_of_neg (by simp [hy]; exact fun e => hne e.symm)]
    · rw [List.filter_cons_of_pos (by simpa using hy)]
      by_cases hx : y.1 = x
      · rw [List.find?_cons_of_pos (by simpa using hx), List.find?_cons_of_pos (by simpa using hx)]
      · rw [List.find?_cons_of_neg (by simpa using hx), List.find?_cons_of_neg (by simpa using hx), ih]
theorem find_filter_eq {l : List (Int × List UInt8)} {a : Int} : (l.filter fun y => y.1 != a).find? (fun y => y.1 == a) = none := by
  rw [List.find?_eq_none]
  intro y hy
  have := (List.mem_filter.1 hy).2
  simpa using this
theorem len_filter {l : List (Int × List UInt8)} {a : Int} (h : (l.map (·.1)).Nodup) : (l.filter fun y => y.1 != a).length = if a ∈ l.map (·.1) then l.length - 1 else l.length := by
  induction l with
  | nil => simp
  | cons y r ih =>
    simp only [List.map_cons, List.nodup_cons] at h
    have ih := ih h.2
    by_cases hy : y.1 = a
    · rw [List.filter_cons_of_neg (by simp [hy]), ih, if_neg (by rw [← hy]; exact h.1), if_pos (by simp [hy])]
      simp
    · rw [List.filter_cons_of_pos (by simpa using hy), List.length_cons, ih]
      have e : (a ∈ List.map (·.1) (y :: r)) ↔ a ∈ List.map (·.1) r := by
        simp only [List.map_cons, List.mem_cons]
        exact ⟨fun h => h.resolve_left (fun e => hy e.symm), .inr⟩
      by_cases hm : a ∈ List.map (·.1) r
      · rw [if_pos hm, if_pos (e.2 hm), List.length_cons]
        have : 0 < r.length := by
          cases r with
          | nil => simp at hm
          | cons _ _ => simp
        omega
      · rw [if_neg hm, if_neg (fun h => hm (e.1 h)), List.length_cons]
theorem nodup_filter {l : List (Int × List UInt8)} {a : Int} (h : (l.map (·.1)).Nodup) : ((l.filter fun y => y.1 != a).map (·.1)).Nodup := h.sublist (List.Sublist.map _ List.filter_sublist)
theorem FinL.del {f : SF} {n : Nat} {l : List (Int × List UInt8)} (h : FinL f n l) (a : Int) : FinL (f.del a) (f.nDel n a) (l.filter fun y => y.1 != a) := by
  refine ⟨nodup_filter h.nodup, ?_, fun x => ?_⟩
  · rw [len_filter h.nodup, h.len]
    unfold SF.nDel
    by_cases hm : a ∈ l.map (·.1)
    · rw [if_pos hm, if_pos ((h.has a).2 hm)]
    · rw [if_neg hm, if_neg (fun e => hm ((h.has a).1 e))]
  · unfold SF.del
    by_cases hx : x = a
    · subst hx; rw [find_filter_eq, if_pos rfl]; rfl
    · rw [find_filter_ne hx, if_neg hx, h.look]
theorem FinL.put {f : SF} {n : Nat} {l : List (Int × List UInt8)} (h : FinL f n l) (a : Int) (b : List UInt8) : FinL (f.put a b) (f.nPut n a) ((l.filter fun y => y.1 != a) ++ [(a, b)]) := by
  have hd := h.del a
  refine ⟨?_, ?_, fun x => ?_⟩
  · rw [List.map_append, List.nodup_append]
    refine ⟨hd.nodup, by simp, fun x hx y hy => ?_⟩
    simp only [List.map_cons, List.map_nil, List.mem_singleton] at hy
    subst hy
    rintro rfl
    obtain ⟨z, hz, rfl⟩ := List.mem_map.1 hx
    have := (List.mem_filter.1 hz).2
    simp at this
  · rw [List.length_append, hd.len]
    unfold SF.nDel SF.nPut
    by_cases hs : (f a).isSome = true
    · rw [if_pos hs, if_pos hs]
      have hm := (h.has a).1 hs
      have : 0 < l.length := by
        cases l with
        | nil => simp at hm
        | cons _ _ => simp
      have := h.len
      simp
      omega
    · rw [if_neg hs, if_neg hs]; simp
  · rw [List.find?_append]
    unfold SF.put
    by_cases hx : x = a
    · subst hx
      rw [find_filter_eq, if_pos rfl]
      simp
    · rw [find_filter_ne hx, if_neg hx, ← h.look x]
      cases l.find? (fun y => y.1 == x) with
      | some y => rfl
      | none => simp; exact fun e => hx e.symm
end Go.Proofs.YtpmndmgfoiagnaaDoor
