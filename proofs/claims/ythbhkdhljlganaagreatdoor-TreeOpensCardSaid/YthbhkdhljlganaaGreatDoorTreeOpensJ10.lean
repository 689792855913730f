/- What the proof of TreeOpens needs, part 10. -/
import Derived.Test.YthbhkdhljlganaaGreatDoorTreeOpensJ2
import Derived.Test.YthbhkdhljlganaaGreatDoorTreeOpensJ3
import Derived.Test.YthbhkdhljlganaaGreatDoorTreeOpensJ9

namespace Go.Proofs.YthbhkdhljlganaaGreatDoor
open Go
set_option linter.unusedVariables false

/-- A page as a value: is it a leaf, which is next, its cells. -/
abbrev Pag := Bool × Nat × List Cel
/-- Which pages there are, and what they hold (none: no page, or none's bytes). -/
abbrev PF := Int → Option Pag
def noPg : Pag := (false, 0, [])
def pgB (x : Pag) : List UInt8 := if pgChk (x.2.1 : Int) x.2.2 = 0 then sealB (pgF x.1 (x.2.1 : Int) x.2.2) else []
def szP (x : Pag) : Nat := pgSz (x.2.1 : Int) x.2.2
def cellAt (cs : List Cel) (i : Nat) : Cel := cs[i]?.getD ([], [])
/-- What a page of the pager holds. -/
def Pgr.pg (P : Pgr) (c : Int → List UInt8) : PF := fun i => (P.page c i).bind pgOfB
def Pgr.pgD (P : Pgr) (c : Int → List UInt8) (i : Int) : Pag := (P.pg c i).getD noPg
def Pgr.wp (P : Pgr) (i : Int) (x : Pag) : Pgr := P.write i (pgB x)
def Pgr.al (P : Pgr) (x : Pag) : Pgr × Nat := ((P.alloc (pgB x)).1, (P.alloc (pgB x)).2.1)
/-- The page that a cell leads to; -1: none. -/
def childT (v : List UInt8) : Int := match getVarB v with
  | .ok (x, _) => if x = 0 ∨ 90 ≤ x then -1 else (x : Int)
  | .error _ => -1

/-! ### Check -/
structure Und where
  id : Int
  depth : Nat
  from_ : List UInt8
  to_ : List UInt8
  open_ : Bool
def fitCel (u : Und) (leaf : Bool) (c : Cel) : Bool :=
  !(Op.bytesLess c.1 u.from_) && (u.open_ || Op.bytesLess c.1 u.to_) && (leaf || (decide (0 ≤ childT c.2) && decide (varB (childT c.2).toNat = c.2)))
def fitsT (u : Und) (x : Pag) : Bool :=
  if (0 < u.id ∧ x.2.2 = []) ∨ (x.1 = false ∧ u.id = 0 ∧ x.2.2.length < 2) ∨ (x.1 = false ∧ x.2.1 ≠ 0) then false
  else match x.2.2 with
    | [] => true
    | c :: r => (x.1 || decide (c.1 = u.from_)) && (c :: r).all (fitCel u x.1)
/-- The pages below an inner page, from the left to the right. -/
def kidsT (u : Und) : List Cel → List Und
  | [] => []
  | [c] => [⟨childT c.2, u.depth + 1, c.1, u.to_, u.open_⟩]
  | c :: d :: r => ⟨childT c.2, u.depth + 1, c.1, d.1, false⟩ :: kidsT u (d :: r)
structure ChT where
  leaves : List (Int × Pag)
  seen : List Int
  depth : Nat
/-- Check's first loop; fuel: pages not seen yet. The stack's top is the list's head. -/
def chkLoop (pf : PF) : Nat → List Und → ChT → Option ChT
  | _, [], s => some s
  | 0, _ :: _, _ => none
  | k + 1, u :: todo, s => match pf u.id with
    | none => none
    | some x =>
      if s.seen.contains u.id || !fitsT u x then none
      else if x.1 then
        if s.leaves ≠ [] ∧ s.depth ≠ u.depth then none
        else chkLoop pf k todo ⟨s.leaves ++ [(u.id, x)], u.id :: s.seen, u.depth⟩
      else chkLoop pf k (kidsT u x.2.2 ++ todo) ⟨s.leaves, u.id :: s.seen, s.depth⟩
/-- Each leaf's next is the one behind it. -/
def chained : List (Int × Pag) → Bool
  | [] => true
  | [(_, x)] => decide (x.2.1 = 0)
  | (_, x) :: (i, y) :: r => decide ((x.2.1 : Int) = i) && chained ((i, y) :: r)
def und0 : Und := ⟨0, 0, [], [], true⟩
/-- Check: of pages of which so many are there. -/
def chkT (pf : PF) (n : Nat) : Bool := match chkLoop pf 91 [und0] ⟨[], [], 0⟩ with
  | none => false
  | some s => chained s.leaves && decide (s.seen.length = n)

/-! ### The way down -/
structure TStp where
  id : Int
  at_ : Nat
  pg : Pag
def belowN (cs : List Cel) (k : List UInt8) : Nat := if isK cs k then findK cs k else findK cs k - 1
def wayF (pf : Int → Pag) (k : List UInt8) : Nat → Int → Option (List TStp)
  | 0, _ => none
  | n + 1, i => if (pf i).1 = true ∨ (pf i).2.2 = [] then some [⟨i, 0, pf i⟩]
    else (wayF pf k n (childT (cellAt (pf i).2.2 (belowN (pf i).2.2 k)).2)).map (⟨i, belowN (pf i).2.2 k, pf i⟩ :: ·)
theorem wayF_ne {pf : Int → Pag} {k : List UInt8} {n : Nat} {i : Int} {l : List TStp} (h : wayF pf k n i = some l) : l ≠ [] := by
  rcases n with _ | n
  · cases h
  · rw [wayF] at h
    split at h
    · cases h; simp
    · rw [Option.map_eq_some_iff] at h
      obtain ⟨l', _, rfl⟩ := h
      simp
/-- How deep the tree is. -/
def depF (pf : Int → Pag) : Nat := ((wayF pf [] 100 0).getD []).length

/-! ### What is put -/
noncomputable def halfK (cs : List Cel) : Nat := Classical.epsilon (HalfAt cs)
theorem halfK_of {cs : List Cel} {k : Nat} (h : HalfAt cs k) : halfK cs = k := (Classical.epsilon_spec (p := HalfAt cs) ⟨k, h⟩).only h
noncomputable def splL (x : Pag) : Pag := (x.1, x.2.1, x.2.2.take (halfK x.2.2))
noncomputable def splR (x : Pag) : Pag := (x.1, x.2.1, x.2.2.drop (halfK x.2.2))
/-- The right half, as it is written: an inner page has no next one. -/
noncomputable def splR' (x : Pag) : Pag := (x.1, if x.1 then x.2.1 else 0, x.2.2.drop (halfK x.2.2))
def setNx (x : Pag) (leaf : Bool) (n : Nat) : Pag := (x.1, if leaf then n else x.2.1, x.2.2)
def putPg (x : Pag) (c : Cel) : Pag := (x.1, x.2.1, putC x.2.2 c)
def delPg (x : Pag) (k : List UInt8) : Pag := (x.1, x.2.1, delC x.2.2 k)
noncomputable def rootP (P : Pgr) (x : Pag) : Pgr :=
  (((P.al (splR x)).1.al (setNx (splL x) x.1 (P.al (splR x)).2)).1).wp 0
    (false, 0, [([], varB (((P.al (splR x)).1.al (setNx (splL x) x.1 (P.al (splR x)).2)).2)), ((cellAt (splR x).2.2 0).1, varB (P.al (splR x)).2)])
noncomputable def upStep (P : Pgr) (id : Int) (x : Pag) (s : TStp) : Pgr × Pag :=
  ((P.al (splR' x)).1.wp id (setNx (splL x) x.1 (P.al (splR' x)).2), putPg s.pg ((cellAt (splR' x).2.2 0).1, varB (P.al (splR' x)).2))
/-- A page that may be too great, and what changes above it (the last step first). -/
noncomputable def upP : Pgr → List TStp → Int → Pag → Pgr
  | P, [], id, x => if szP x ≤ 2048 then P.wp id x else if id = 0 then rootP P x else P
  | P, s :: r, id, x => if szP x ≤ 2048 then P.wp id x else if id = 0 then rootP P x else upP (upStep P id x s).1 r s.id (upStep P id x s).2
/-- Put: of the way down. -/
noncomputable def putT (P : Pgr) (l : List TStp) (c : Cel) : Pgr × Nat :=
  if 240 < c.1.length then (P, 100)
  else match l.reverse with
    | [] => (P, 0)
    | s :: r => if 480 < c.1.length + c.2.length then (P, 100)
      else if 90 < P.pages.length + (l.length + 2) then (P, 141)
      else (upP P r s.id (putPg s.pg c), 0)

/-! ### What is taken out -/
/-- Both pages of which one has too little; the left one's number, the right one's. -/
def lvA (s : TStp) : Int := childT (cellAt s.pg.2.2 (s.at_ - 1)).2
def lvB (s : TStp) : Int := childT (cellAt s.pg.2.2 (s.at_ - 1 + 1)).2
def lvK (s : TStp) : List UInt8 := (cellAt s.pg.2.2 (s.at_ - 1 + 1)).1
def setK0 (x : Pag) (k : List UInt8) : Pag := (x.1, x.2.1, x.2.2.set 0 (k, (cellAt x.2.2 0).2))
def lvL (pf : Int → Pag) (s : TStp) (x : Pag) : Pag := if s.at_ = 0 then x else pf (lvA s)
def lvR0 (pf : Int → Pag) (s : TStp) (x : Pag) : Pag := if s.at_ = 0 then pf (lvB s) else x
def lvR (pf : Int → Pag) (s : TStp) (x : Pag) : Pag := if x.1 then lvR0 pf s x else setK0 (lvR0 pf s x) (lvK s)
def joinP (a b : Pag) : Pag := (a.1, b.2.1, a.2.2 ++ b.2.2)
def lvAll (pf : Int → Pag) (s : TStp) (x : Pag) : Pag := joinP (lvL pf s x) (lvR pf s x)
noncomputable def lvPar (pf : Int → Pag) (s : TStp) (x : Pag) : Pag := putPg (delPg s.pg (lvK s)) ((cellAt (splR (lvAll pf s x)).2.2 0).1, varB (lvB s).toNat)
/-- Is there no page for the parent's half, and may it stay as it is? -/
noncomputable def lvStay (P : Pgr) (pf : Int → Pag) (s : TStp) (x : Pag) : Prop := 2048 < szP (lvPar pf s x) ∧ 90 < P.pages.length + (depF pf + 2) ∧ (x.1 = true ∨ 1 < x.2.2.length)
open Classical in
noncomputable def levelP (P : Pgr) (c : Int → List UInt8) (s : TStp) (id : Int) (x : Pag) : Pgr × Pag :=
  if szP (lvAll (P.pgD c) s x) ≤ 2048 then ((P.wp (lvA s) (lvAll (P.pgD c) s x)).free (lvB s), delPg s.pg (lvK s))
  else if lvStay P (P.pgD c) s x then (P.wp id x, s.pg)
  else ((P.wp (lvA s) (setNx (splL (lvAll (P.pgD c) s x)) x.1 (lvB s).toNat)).wp (lvB s) (splR (lvAll (P.pgD c) s x)), lvPar (P.pgD c) s x)
/-- The last page of a way that is given up: a root with one page below it is that. -/
def finP (P : Pgr) (c : Int → List UInt8) (id : Int) (x : Pag) : Pgr :=
  if id = 0 ∧ x.1 = false ∧ x.2.2.length = 1 then (P.free (childT (cellAt x.2.2 0).2)).wp id (P.pgD c (childT (cellAt x.2.2 0).2)) else P.wp id x
noncomputable def downP (c : Int → List UInt8) : Pgr → List TStp → Int → Pag → Pgr
  | P, [], id, x => finP P c id x
  | P, s :: r, id, x => if szP x < 512 then
      if 2048 < szP (levelP P c s id x).2 then upP (levelP P c s id x).1 r s.id (levelP P c s id x).2
      else downP c (levelP P c s id x).1 r s.id (levelP P c s id x).2
    else finP P c id x
noncomputable def deleteT (P : Pgr) (c : Int → List UInt8) (l : List TStp) (k : List UInt8) : Pgr × Nat := match l.reverse with
  | [] => (P, 0)
  | s :: r => if isK s.pg.2.2 k then (downP c P r s.id (delPg s.pg k), 0) else (P, 140)

/-! ### What is told -/
/-- The cells from a page on, along the leaves. -/
def chainF (pf : Int → Pag) : Nat → Pag → Option (List Cel)
  | 0, _ => none
  | n + 1, x => if x.2.1 = 0 then some x.2.2 else (chainF pf n (pf (x.2.1 : Int))).map (x.2.2 ++ ·)
end Go.Proofs.YthbhkdhljlganaaGreatDoor

namespace Go.Proofs.YthbhkdhljlganaaGreatDoor
open Go
set_option linter.unusedVariables false

abbrev Key := List UInt8
/-- What stands at a page above j more: a leaf's next page and cells, or keys with the pages that they lead to. -/
@[reducible] def Ct : Nat → Type
  | 0 => Nat × List Cel
  | j + 1 => List (Key × (Nat × Ct j))
abbrev Kid (j : Nat) := Key × (Nat × Ct j)
def leads {j : Nat} (ks : List (Kid j)) : List Cel := ks.map fun k => (k.1, varB k.2.1)
def Ct.page : (j : Nat) → Ct j → Pag
  | 0, c => (true, c.1, c.2)
  | _ + 1, ks => (false, 0, leads ks)
def Ct.subs : (j : Nat) → Ct j → List (Nat × Pag)
  | 0, _ => []
  | j + 1, ks => List.flatMap (fun k : Kid j => (k.2.1, Ct.page j k.2.2) :: Ct.subs j k.2.2) ks
def Ct.cells : (j : Nat) → Ct j → List Cel
  | 0, c => c.2
  | j + 1, ks => List.flatMap (fun k : Kid j => Ct.cells j k.2.2) ks
def Ct.lvs : (j : Nat) → Nat → Ct j → List (Nat × Nat)
  | 0, i, c => [(i, c.1)]
  | j + 1, _, ks => List.flatMap (fun k : Kid j => Ct.lvs j k.2.1 k.2.2) ks
def subsL {j : Nat} (ks : List (Kid j)) : List (Nat × Pag) := List.flatMap (fun k : Kid j => (k.2.1, Ct.page j k.2.2) :: Ct.subs j k.2.2) ks
def cellsL {j : Nat} (ks : List (Kid j)) : List Cel := List.flatMap (fun k : Kid j => Ct.cells j k.2.2) ks
def lvsL {j : Nat} (ks : List (Kid j)) : List (Nat × Nat) := List.flatMap (fun k : Kid j => Ct.lvs j k.2.1 k.2.2) ks
theorem subs_succ (j : Nat) (ks : List (Kid j)) : Ct.subs (j + 1) ks = subsL ks := rfl
theorem page_succ (j : Nat) (ks : List (Kid j)) : Ct.page (j + 1) ks = (false, 0, leads ks) := rfl
section
variable {j : Nat} (l r : List (Kid j)) (k : Kid j)
theorem leads_app : leads (l ++ r) = leads l ++ leads r := List.map_append
theorem leads_cons : leads (k :: r) = (k.1, varB k.2.1) :: leads r := rfl
theorem leads_len : (leads l).length = l.length := List.length_map _
theorem subsL_app : subsL (l ++ r) = subsL l ++ subsL r := by simp [subsL]
theorem subsL_cons : subsL (k :: r) = (k.2.1, Ct.page j k.2.2) :: Ct.subs j k.2.2 ++ subsL r := by simp [subsL]
theorem cellsL_app : cellsL (l ++ r) = cellsL l ++ cellsL r := by simp [cellsL]
theorem cellsL_cons : cellsL (k :: r) = Ct.cells j k.2.2 ++ cellsL r := by simp [cellsL]
theorem lvsL_app : lvsL (l ++ r) = lvsL l ++ lvsL r := by simp [lvsL]
theorem lvsL_cons : lvsL (k :: r) = Ct.lvs j k.2.1 k.2.2 ++ lvsL r := by simp [lvsL]
end

/-! ### Bounds -/
def inB (lo : Key) (hi : Option Key) (k : Key) : Prop := ¬ Lt k lo ∧ ∀ h, hi = some h → Lt k h
def nextK {j : Nat} (ks : List (Kid j)) (hi : Option Key) : Option Key := match ks with
  | [] => hi
  | k :: _ => some k.1
def WfL {j : Nat} (W : Key → Option Key → Ct j → Prop) : List (Kid j) → Option Key → Prop
  | [], _ => True
  | k :: r, hi => W k.1 (nextK r hi) k.2.2 ∧ (∀ h, nextK r hi = some h → Lt k.1 h) ∧ WfL W r hi
/-- The keys below a page lie between bounds, in order. -/
def Wf : (j : Nat) → Key → Option Key → Ct j → Prop
  | 0, lo, hi, c => Asc c.2 ∧ ∀ x ∈ c.2, inB lo hi x.1
  | j + 1, lo, hi, ks => nextK (j := j) ks none = some lo ∧ WfL (j := j) (Wf j) ks hi
theorem nextK_app {j : Nat} (l r : List (Kid j)) (hi : Option Key) : nextK (l ++ r) hi = nextK l (nextK r hi) := by cases l <;> rfl
theorem WfL_app {j : Nat} {W : Key → Option Key → Ct j → Prop} : ∀ (l : List (Kid j)) {r : List (Kid j)} {hi : Option Key}, WfL W (l ++ r) hi ↔ WfL W l (nextK r hi) ∧ WfL W r hi
  | [], r, hi => by simp [WfL]
  | k :: l, r, hi => by
    show W k.1 (nextK (l ++ r) hi) k.2.2 ∧ (∀ h, nextK (l ++ r) hi = some h → Lt k.1 h) ∧ WfL W (l ++ r) hi ↔ (W k.1 (nextK l (nextK r hi)) k.2.2 ∧ (∀ h, nextK l (nextK r hi) = some h → Lt k.1 h) ∧ WfL W l (nextK r hi)) ∧ WfL W r hi
    rw [nextK_app, WfL_app l]
    simp only [and_assoc]
theorem lt_trans_le {a b c : Key} (h : Lt a b) (h' : ¬ Lt c b) : Lt a c := by
  rcases lt_or (a := b) (b := c) with h1 | rfl | h1
  · exact h.trans h1
  · exact h
  · exact absurd h1 h'
theorem le_trans_le {a b c : Key} (h : ¬ Lt b a) (h' : ¬ Lt c b) : ¬ Lt c a := fun hc => h' (lt_trans_le hc h)
theorem inB.mono {lo lo' : Key} {hi hi' : Option Key} {k : Key} (h : inB lo hi k) (hl : ¬ Lt lo lo') (hh : ∀ x, hi' = some x → ∃ y, hi = some y ∧ ¬ Lt x y) : inB lo' hi' k := by
  refine ⟨le_trans_le hl h.1, fun x hx => ?_⟩
  obtain ⟨y, hy, hxy⟩ := hh x hx
  exact lt_trans_le (h.2 y hy) hxy
theorem asc_app {a b : List Cel} : Asc (a ++ b) ↔ Asc a ∧ Asc b ∧ ∀ x ∈ a, ∀ y ∈ b, Lt x.1 y.1 := List.pairwise_append
/-- All keys of such a list lie between its first one and the bound. -/
theorem WfL.all {j : Nat} {W : Key → Option Key → Ct j → Prop} (hW : ∀ lo hi c, W lo hi c → Asc (Ct.cells j c) ∧ ∀ x ∈ Ct.cells j c, inB lo hi x.1) :
    ∀ (ks : List (Kid j)) (hi : Option Key), WfL W ks hi → Asc (cellsL ks) ∧ Asc (leads ks) ∧ ∀ lo, nextK ks none = some lo → (∀ x ∈ cellsL ks, inB lo hi x.1) ∧ ∀ x ∈ leads ks, inB lo hi x.1
  | [], hi, _ => ⟨List.Pairwise.nil, List.Pairwise.nil, fun lo h => by cases h⟩
  | k :: r, hi, h => by
    obtain ⟨h1, h2, h3⟩ := h
    obtain ⟨a1, a2, a3⟩ := WfL.all hW r hi h3
    obtain ⟨b1, b2⟩ := hW _ _ _ h1
    have key : ∀ x : Key, (∃ lo, nextK r none = some lo ∧ inB lo hi x) → Lt k.1 x ∧ inB k.1 hi x := by
      rintro x ⟨lo, hlo, hx⟩
      have hn : nextK r hi = some lo := by cases r with
        | nil => cases hlo
        | cons a r => exact hlo
      have := h2 lo hn
      exact ⟨lt_trans_le this hx.1, hx.mono this.not fun y hy => ⟨y, hy, fun h => h.irrefl⟩⟩
    have hr : ∀ x ∈ cellsL r, ∃ lo, nextK r none = some lo ∧ inB lo hi x.1 := by
      intro x hx
      cases r with
      | nil => simp [cellsL] at hx
      | cons a r => exact ⟨a.1, rfl, (a3 a.1 rfl).1 x hx⟩
    have hr' : ∀ x ∈ leads r, ∃ lo, nextK r none = some lo ∧ inB lo hi x.1 := by
      intro x hx
      cases r with
      | nil => simp [leads] at hx
      | cons a r => exact ⟨a.1, rfl, (a3 a.1 rfl).2 x hx⟩
    have up : ∀ x, inB k.1 (nextK r hi) x → inB k.1 hi x := by
      intro x hx
      refine ⟨hx.1, fun y hy => ?_⟩
      cases r with
      | nil => exact hx.2 y hy
      | cons a r => exact (hx.2 a.1 rfl).trans (((a3 a.1 rfl).2 (a.1, varB a.2.1) (by simp [leads])).2 y hy)
    have self : inB k.1 hi k.1 := by
      refine ⟨fun h => h.irrefl, fun y hy => ?_⟩
      cases r with
      | nil => exact h2 y hy
      | cons a r => exact (h2 a.1 rfl).trans (((a3 a.1 rfl).2 (a.1, varB a.2.1) (by simp [leads])).2 y hy)
    refine ⟨?_, ?_, fun lo hlo => ?_⟩
    · rw [cellsL_cons, asc_app]
      refine ⟨b1, a1, fun x hx y hy => ?_⟩
      obtain ⟨lo, hlo, hy⟩ := hr y hy
      have hn : nextK r hi = some lo := by cases r with
        | nil => cases hlo
        | cons a r => exact hlo
      exact lt_trans_le ((b2 x hx).2 lo hn) hy.1
    · rw [leads_cons]
      exact List.Pairwise.cons (fun x hx => (key _ (hr' x hx)).1) a2
    · obtain rfl : k.1 = lo := by injection hlo
      refine ⟨fun x hx => ?_, fun x hx => ?_⟩
      · rw [cellsL_cons] at hx
        rcases List.mem_append.1 hx with hx | hx
        · exact up _ (b2 x hx)
        · exact (key _ (hr x hx)).2
      · rw [leads_cons] at hx
        rcases List.mem_cons.1 hx with rfl | hx
        · exact self
        · exact (key _ (hr' x hx)).2
theorem Wf.all : ∀ (j : Nat) (lo : Key) (hi : Option Key) (c : Ct j), Wf j lo hi c → Asc (Ct.cells j c) ∧ ∀ x ∈ Ct.cells j c, inB lo hi x.1
  | 0, lo, hi, c, h => h
  | j + 1, lo, hi, ks, h => by
    obtain ⟨h1, h2⟩ := h
    obtain ⟨a1, _, a3⟩ := WfL.all (Wf.all j) ks hi h2
    exact ⟨a1, (a3 lo h1).1⟩
/-- A page's own keys. -/
theorem Wf.keys {j : Nat} {lo : Key} {hi : Option Key} {c : Ct j} (h : Wf j lo hi c) : Asc (Ct.page j c).2.2 ∧ ∀ x ∈ (Ct.page j c).2.2, inB lo hi x.1 := by
  cases j with
  | zero => exact h
  | succ j =>
    obtain ⟨h1, h2⟩ := h
    obtain ⟨_, a2, a3⟩ := WfL.all (Wf.all j) c hi h2
    exact ⟨a2, (a3 lo h1).2⟩

/-! ### A page, and what is above and beside it -/
inductive Cx : Nat → Nat → Type
  | top {D : Nat} : Cx D D
  | step {j D : Nat} (id : Nat) (l : List (Kid j)) (k : Key) (r : List (Kid j)) (up : Cx (j + 1) D) : Cx j D
def Cx.plug : {j D : Nat} → Cx j D → Nat → Ct j → Ct D
  | _, _, .top, _, c => c
  | _, _, .step (j := j) id l k r up, h, c => up.plug id (show Ct (j + 1) from (l ++ (k, (h, c)) :: r : List (Kid j)))
/-- The page of a step: of its cells the one that leads to h. -/
def stepPg {j : Nat} (l : List (Kid j)) (k : Key) (h : Nat) (r : List (Kid j)) : Pag := (false, 0, leads l ++ (k, varB h) :: leads r)
def Cx.steps : {j D : Nat} → Cx j D → Nat → List TStp
  | _, _, .top, _ => []
  | _, _, .step id l k r up, h => ⟨(id : Int), l.length, stepPg l k h r⟩ :: up.steps id
def Cx.pgs : {j D : Nat} → Cx j D → Nat → List (Nat × Pag)
  | _, _, .top, _ => []
  | _, _, .step id l k r up, h => (id, stepPg l k h r) :: (subsL l ++ subsL r) ++ up.pgs id
def Cx.root : {j D : Nat} → Cx j D → Nat → Prop
  | _, _, .top, h => h = 0
  | _, _, .step id _ _ _ up, h => 0 < h ∧ up.root id
def Cx.cl : {j D : Nat} → Cx j D → List Cel
  | _, _, .top => []
  | _, _, .step _ l _ _ up => up.cl ++ cellsL l
def Cx.cr : {j D : Nat} → Cx j D → List Cel
  | _, _, .top => []
  | _, _, .step _ _ _ r up => cellsL r ++ up.cr
def Cx.ll : {j D : Nat} → Cx j D → List (Nat × Nat)
  | _, _, .top => []
  | _, _, .step _ l _ _ up => up.ll ++ lvsL l
def Cx.lr : {j D : Nat} → Cx j D → List (Nat × Nat)
  | _, _, .top => []
  | _, _, .step _ _ _ r up => lvsL r ++ up.lr
def Cx.WfC : {j D : Nat} → Cx j D → Key → Option Key → Prop
  | _, _, .top, lo, hi => lo = [] ∧ hi = none
  | _, _, .step (j := j) id l k r up, lo, hi => lo = k ∧ ∃ lo' hi', up.WfC lo' hi' ∧ hi = nextK r hi' ∧ nextK l (some k) = some lo' ∧ WfL (Wf j) l (some k) ∧ (∀ h, nextK r hi' = some h → Lt k h) ∧ WfL (Wf j) r hi'
section
variable {j D : Nat}
theorem page_kids (l : List (Kid j)) (k : Key) (h : Nat) (c : Ct j) (r : List (Kid j)) : Ct.page (j + 1) (show Ct (j + 1) from (l ++ (k, (h, c)) :: r : List (Kid j))) = stepPg l k h r := by
  show (false, 0, leads (l ++ (k, (h, c)) :: r)) = _
  rw [leads_app, leads_cons]
  rfl
theorem plug_cells : ∀ {j D : Nat} (cx : Cx j D) (h : Nat) (c : Ct j), Ct.cells D (cx.plug h c) = cx.cl ++ Ct.cells j c ++ cx.cr
  | _, _, .top, h, c => by simp [Cx.plug, Cx.cl, Cx.cr]
  | _, _, .step (j := j) id l k r up, h, c => by
    rw [Cx.plug, plug_cells up, Cx.cl, Cx.cr]
    show up.cl ++ cellsL (l ++ (k, (h, c)) :: r) ++ up.cr = _
    rw [cellsL_app, cellsL_cons]
    simp only [List.append_assoc]
theorem plug_lvs : ∀ {j D : Nat} (cx : Cx j D) (h : Nat) (c : Ct j), cx.root h → Ct.lvs D 0 (cx.plug h c) = cx.ll ++ Ct.lvs j h c ++ cx.lr
  | _, _, .top, h, c, hr => by obtain rfl : h = 0 := hr; simp [Cx.plug, Cx.ll, Cx.lr]
  | _, _, .step (j := j) id l k r up, h, c, hr => by
    rw [Cx.plug, plug_lvs up id _ hr.2, Cx.ll, Cx.lr]
    show up.ll ++ lvsL (l ++ (k, (h, c)) :: r) ++ up.lr = _
    rw [lvsL_app, lvsL_cons]
    simp only [List.append_assoc]
/-- All pages: those of the frames and beside, the page itself, those below. -/
theorem plug_pgs : ∀ {j D : Nat} (cx : Cx j D) (h : Nat) (c : Ct j), cx.root h → ((0, Ct.page D (cx.plug h c)) :: Ct.subs D (cx.plug h c)).Perm (cx.pgs h ++ (h, Ct.page j c) :: Ct.subs j c)
  | _, _, .top, h, c, hr => by obtain rfl : h = 0 := hr; exact List.Perm.refl _
  | _, _, .step (j := j) id l k r up, h, c, hr => by
    rw [Cx.plug, Cx.pgs]
    refine (plug_pgs up id _ hr.2).trans ?_
    rw [page_kids]
    have e : Ct.subs (j + 1) (show Ct (j + 1) from (l ++ (k, (h, c)) :: r : List (Kid j))) = subsL l ++ ((h, Ct.page j c) :: Ct.subs j c ++ subsL r) := by
      show subsL (l ++ (k, (h, c)) :: r) = _
      rw [subsL_app, subsL_cons]
    rw [e]
    generalize stepPg l k h r = X
    generalize subsL l = A
    generalize subsL r = B
    generalize (h, Ct.page j c) :: Ct.subs j c = C
    generalize up.pgs id = U
    -- U ++ X :: (A ++ (C ++ B)) ~ (X :: (A ++ B) ++ U) ++ C
    refine (List.perm_middle).trans ?_
    simp only [List.cons_append, List.append_assoc]
    refine List.Perm.cons _ ?_
    refine (List.perm_append_comm (l₁ := U)).trans ?_
    simp only [List.append_assoc]
    refine List.Perm.append_left A ?_
    refine (List.perm_append_comm (l₁ := C)).trans ?_
    simp only [List.append_assoc]
    refine List.Perm.append_left B ?_
    exact List.Perm.refl _
end
end Go.Proofs.YthbhkdhljlganaaGreatDoor

namespace Go.Proofs.YthbhkdhljlganaaGreatDoor
open Go
set_option linter.unusedVariables false

theorem pgWhy_z {x : Int} {b : List UInt8} (h : pgWhy x b = 0) : 0 ≤ x ∧ x < 90 ∧ b.length ≤ 2048 := by
  unfold pgWhy at h
  split at h
  · cases h
  · split at h
    · cases h
    · omega
/-! ### Pages that may be -/
def POk (x : Pag) : Prop := pgChk (x.2.1 : Int) x.2.2 = 0
theorem POk.mk' {x : Pag} (h1 : x.2.1 ≤ 256) (hc : chk none x.2.2 = 0) (hs : szP x ≤ 2048) : POk x := by
  unfold POk
  exact pgChk_of (by omega) (by omega) hc hs
theorem POk.parts {x : Pag} (h : POk x) : x.2.1 ≤ 256 ∧ chk none x.2.2 = 0 ∧ szP x ≤ 2048 := by
  obtain ⟨h0, h1, h2⟩ := pgChk_ok h
  exact ⟨by omega, pgChk_cells h, h2⟩
theorem POk.bytes {x : Pag} (h : POk x) : (pgB x).length ≤ 2048 ∧ pgOfB (pgB x) = some x := by
  have h2 := h.parts.2.2
  unfold POk at h
  unfold pgB
  rw [if_pos h, sealB_len]
  unfold szP at h2
  have := pgF_len x.1 (x.2.1 : Int) x.2.2
  exact ⟨by omega, pgOfB_bytes h⟩
theorem celB_min (c : Cel) : 2 ≤ (celB c).length := by
  unfold celB textB
  have h1 := varB_len c.1.length
  have h2 := varB_len c.2.length
  simp only [List.length_append]
  omega
theorem celsN_ge (cs : List Cel) : 2 * cs.length ≤ celsN cs := by
  induction cs with
  | nil => simp
  | cons c cs ih =>
    have e : celsN (c :: cs) = (celB c).length + celsN cs := by simp [celsN]
    have := celB_min c
    rw [e, List.length_cons]
    omega
theorem celsN_le' {M : Nat} {cs : List Cel} (h : ∀ c ∈ cs, (celB c).length ≤ M) : celsN cs ≤ M * cs.length := by
  induction cs with
  | nil => simp [celsN]
  | cons c cs ih =>
    have e : celsN (c :: cs) = (celB c).length + celsN cs := by simp [celsN]
    have h1 := h c (by simp)
    have h2 := ih fun x hx => h x (by simp [hx])
    rw [e, List.length_cons, Nat.mul_succ]
    omega
structure RepL (pf : PF) (l : List (Nat × Pag)) : Prop where
  get : ∀ i p, pf i = some p ↔ ∃ n : Nat, i = (n : Int) ∧ (n, p) ∈ l
  nodup : (l.map (·.1)).Nodup
  lt : ∀ q ∈ l, q.1 < 90
def PF.put (pf : PF) (i : Int) (x : Pag) : PF := fun y => if y = i then some x else pf y
def PF.del (pf : PF) (i : Int) : PF := fun y => if y = i then none else pf y
theorem PF.put_del (pf : PF) (i : Int) (x : Pag) : (pf.del i).put i x = pf.put i x := by
  funext y
  unfold PF.put PF.del
  split <;> rfl
section
variable {pf : PF} {l l' : List (Nat × Pag)} {i : Nat} {p x : Pag}
theorem RepL.new (h : RepL pf l) (hi : i ∉ l.map (·.1)) (h9 : i < 90) (x : Pag) : RepL (pf.put i x) ((i, x) :: l) := by
  refine ⟨fun y q => ?_, ?_, fun q hq => ?_⟩
  · unfold PF.put
    by_cases hy : y = (i : Int)
    · rw [if_pos hy]
      constructor
      · intro e
        cases e
        exact ⟨i, hy, by simp⟩
      · rintro ⟨n, hn, hm⟩
        obtain rfl : n = i := by omega
        rcases List.mem_cons.1 hm with hm | hm
        · cases hm; rfl
        · exact absurd (List.mem_map_of_mem (f := (·.1)) hm) hi
    · rw [if_neg hy, h.get]
      constructor
      · rintro ⟨n, hn, hm⟩
        exact ⟨n, hn, by simp [hm]⟩
      · rintro ⟨n, hn, hm⟩
        rcases List.mem_cons.1 hm with hm | hm
        · cases hm; exact absurd hn hy
        · exact ⟨n, hn, hm⟩
  · rw [List.map_cons, List.nodup_cons]
    exact ⟨hi, h.nodup⟩
  · rcases List.mem_cons.1 hq with rfl | hq
    · exact h9
    · exact h.lt q hq
theorem RepL.del (h : RepL pf ((i, p) :: l)) : RepL (pf.del i) l := by
  have hn := h.nodup
  rw [List.map_cons, List.nodup_cons] at hn
  refine ⟨fun y q => ?_, hn.2, fun q hq => h.lt q (by simp [hq])⟩
  unfold PF.del
  by_cases hy : y = (i : Int)
  · rw [if_pos hy]
    constructor
    · intro e; cases e
    · rintro ⟨n, hn', hm⟩
      obtain rfl : n = i := by omega
      exact absurd (List.mem_map_of_mem (f := (·.1)) hm) hn.1
  · rw [if_neg hy, h.get]
    constructor
    · rintro ⟨n, hn', hm⟩
      rcases List.mem_cons.1 hm with hm | hm
      · cases hm; exact absurd hn' hy
      · exact ⟨n, hn', hm⟩
    · rintro ⟨n, hn', hm⟩
      exact ⟨n, hn', by simp [hm]⟩
theorem RepL.put (h : RepL pf ((i, p) :: l)) (x : Pag) : RepL (pf.put i x) ((i, x) :: l) := by
  have hn := h.nodup
  rw [List.map_cons, List.nodup_cons] at hn
  rw [← PF.put_del]
  exact h.del.new hn.1 (h.lt _ (by simp)) x
theorem RepL.at (h : RepL pf l) (hm : (i, p) ∈ l) : pf (i : Int) = some p := (h.get _ _).2 ⟨i, rfl, hm⟩
end
structure RepP (P : Pgr) (c : Int → List UInt8) (l : List (Nat × Pag)) : Prop where
  rep : RepL (P.pg c) l
  has : ∀ i, P.has i = (P.pg c i).isSome
/-- Another pager on the same disk, with the same table. -/
structure Kin (P P' : Pgr) : Prop where
  D : P'.D = P.D
  a : P'.a = P.a
  n : P'.n = P.n
  num : P'.num = P.num
  last : P'.last = P.last
  tag : P'.tag = P.tag
  tb : P'.tb = P.tb
  w90 : In90 P.wr → In90 P'.wr
  wlen : (∀ x b, P.wr x = some b → b.length ≤ 2048) → ∀ x b, P'.wr x = some b → b.length ≤ 2048
  g90 : (In90 P.wr ∧ In90 P.tb ∧ ∀ x, P.gn x = true → 0 ≤ x ∧ x < 90) → ∀ x, P'.gn x = true → 0 ≤ x ∧ x < 90
section
variable {P P' P'' : Pgr} {c : Int → List UInt8} {l l' : List (Nat × Pag)} {i : Nat} {p x : Pag}
theorem Kin.refl (P : Pgr) : Kin P P := ⟨rfl, rfl, rfl, rfl, rfl, rfl, rfl, id, id, fun h => h.2.2⟩
theorem Kin.put {y : Int} {b : List UInt8} (P : Pgr) (h0 : 0 ≤ y) (h1 : y < 90) (hb : b.length ≤ 2048) : Kin P (P.put y b) := by
  refine ⟨rfl, rfl, rfl, rfl, rfl, rfl, rfl, fun h z hz => ?_, fun h z d hz => ?_, fun h z hz => ?_⟩
  · have hz : (P.wr.put y b z).isSome = true := hz
    unfold SF.put at hz
    split at hz
    · omega
    · exact h z hz
  · have hz : P.wr.put y b z = some d := hz
    unfold SF.put at hz
    split at hz
    · cases hz; exact hb
    · exact h z d hz
  · have hz : gnPut P.gn y false z = true := hz
    unfold gnPut at hz
    split at hz
    · cases hz
    · exact h.2.2 z hz
theorem Kin.write (P : Pgr) (y : Int) (b : List UInt8) : Kin P (P.write y b) := by
  unfold Pgr.write
  split
  · rename_i h
    obtain ⟨h0, h1, h2⟩ := pgWhy_z h
    exact Kin.put P h0 h1 h2
  · exact Kin.refl P
theorem Kin.alloc (P : Pgr) (b : List UInt8) : Kin P (P.alloc b).1 := by
  unfold Pgr.alloc
  split
  · exact Kin.refl P
  · split
    · rename_i h2 i hi
      have : i < 90 := by
        unfold Pgr.least at hi
        have := List.mem_of_find?_eq_some hi
        exact List.mem_range.1 this
      exact Kin.put P (by omega) (by omega) (by omega)
    · exact Kin.refl P
theorem Kin.wp (P : Pgr) (y : Int) (x : Pag) : Kin P (P.wp y x) := Kin.write P y _
theorem put_has (P : Pgr) (y : Int) (b : List UInt8) (z : Int) : (P.put y b).has z = if z = y then true else P.has z := by
  unfold Pgr.put Pgr.has SF.put gnPut
  by_cases h : z = y
  · simp [h]
  · simp [h]
theorem put_pg (P : Pgr) (c : Int → List UInt8) (y : Int) {b : List UInt8} {x : Pag} (h : pgOfB b = some x) : (P.put y b).pg c = PF.put (P.pg c) y x := by
  funext z
  unfold PF.put Pgr.pg Pgr.page
  rw [put_has]
  by_cases hz : z = y
  · subst hz
    simp only [if_true]
    have : (P.put z b).wr z = some b := if_pos rfl
    rw [this]
    exact h
  · simp only [if_neg hz]
    have : (P.put y b).wr z = P.wr z := if_neg hz
    rw [this]
theorem put_rep (h : RepP P c l') {i : Nat} {b : List UInt8} (hx : pgOfB b = some x) (hr : RepL (PF.put (P.pg c) i x) l) : RepP (P.put i b) c l := by
  refine ⟨by rw [put_pg P c i hx]; exact hr, fun z => ?_⟩
  rw [put_has, put_pg P c i hx]
  unfold PF.put
  split
  · rfl
  · exact h.has z
theorem wp_put (ok : POk x) (h9 : i < 90) : P.wp (i : Int) x = P.put (i : Int) (pgB x) := by
  unfold Pgr.wp Pgr.write
  have hb := ok.bytes.1
  rw [if_pos]
  unfold pgWhy
  rw [if_neg (by omega), if_neg (by omega)]
theorem RepP.wp (h : RepP P c ((i, p) :: l)) (ok : POk x) : RepP (P.wp (i : Int) x) c ((i, x) :: l) := by
  have h9 : i < 90 := h.rep.lt (i, p) (by simp)
  rw [wp_put ok h9]
  exact put_rep h ok.bytes.2 (h.rep.put x)
theorem RepP.new (h : RepP P c l) (hi : i ∉ l.map (·.1)) (h9 : i < 90) (ok : POk x) : RepP (P.wp (i : Int) x) c ((i, x) :: l) := by
  rw [wp_put ok h9]
  exact put_rep h ok.bytes.2 (h.rep.new hi h9 x)
theorem RepP.pages (h : RepP P c l) : P.pages.Perm (l.map (·.1)) := by
  have h1 : P.pages.Nodup := List.Nodup.sublist List.filter_sublist List.nodup_range
  refine (List.perm_ext_iff_of_nodup h1 h.rep.nodup).2 fun i => ?_
  unfold Pgr.pages
  rw [List.mem_filter, List.mem_range, h.has, List.mem_map]
  constructor
  · rintro ⟨h2, h3⟩
    obtain ⟨q, hq⟩ := Option.isSome_iff_exists.1 h3
    obtain ⟨n, hn, hm⟩ := (h.rep.get _ _).1 hq
    obtain rfl : n = i := by omega
    exact ⟨_, hm, rfl⟩
  · rintro ⟨q, hq, rfl⟩
    have := h.rep.lt q hq
    refine ⟨this, ?_⟩
    rw [h.rep.at (i := q.1) (p := q.2) hq]
    rfl
theorem RepP.len (h : RepP P c l) : P.pages.length = l.length := by rw [h.pages.length_eq, List.length_map]
theorem RepP.le90 (h : RepP P c l) : l.length ≤ 90 := by
  rw [← h.len]
  have := List.length_filter_le (fun i : Nat => P.has (i : Int)) (List.range 90)
  rwa [List.length_range] at this
theorem RepP.pgD (h : RepP P c l) (hm : (i, p) ∈ l) : P.pgD c (i : Int) = p := by
  unfold Pgr.pgD
  rw [h.rep.at hm]
  rfl
end
end Go.Proofs.YthbhkdhljlganaaGreatDoor

namespace Go.Proofs.YthbhkdhljlganaaGreatDoor
open Go Go.RowKit
set_option linter.unusedVariables false

/-- Cells of a page that came in. -/
def Wd (cs : List Cel) : Prop := cs.length ≤ 4398046511104 ∧ ∀ c ∈ cs, c.1.length ≤ 140737488355328 ∧ c.2.length ≤ 140737488355328
def WMid (cs : List Cel) : Prop := cs.length ≤ 4398046511104 ∧ ∀ c ∈ cs, c.1.length ≤ 65536 ∧ c.2.length ≤ 65536
set_option maxHeartbeats 1000000 in
set_option maxRecDepth 100000 in
theorem pbytes_wide (S : Nat → Prop) (v0 : Value) (cs : List Cel) (w : World) (hm : WMid cs) (hr : Cs S w v0 cs) :
    Calls Tryz.prog 126 #[v0] w fun e w' => e = .returned (.int .i64 (celsN cs : Int)) ∧ Below w.heap.size w w' := by
  have hlt := hr.lt
  obtain ⟨A, c, rfl, hlc, hcm, hA0, hA⟩ := hlt.at
  have HA := Lib.hid hA
  have HX := Lib.hid hm.2
  have hml := hm.1
  clear hA hr hlt
  go_enter Tryz.func126, Tryz.ntmps126
  go_wp2_with fail
  go_loopw [3, 8] (fun nv iv wr => ∃ i : Nat, iv = .int .i64 (i : Int) ∧ nv = .int .i64 (celsN (cs.take i) : Int) ∧ i ≤ cs.length ∧ Below w.heap.size w wr) (fun _ iv _ => cs.length - (intOf iv).toNat)
  case atStart => exact ⟨0, rfl, rfl, by omega, Below.refl _ _⟩
  case round =>
    obtain ⟨i, rfl, rfl, hi, hbl⟩ := hrel
    have hsz := hbl.size
    by_cases hil : i < cs.length
    · obtain ⟨b, o, rfl, hbs, hc⟩ := HA.out (by omega)
      have c0 : wr.cell? ⟨b, o + i * 2, none⟩ = some (.string (st cs[i].1)) := (hbl.cell (p := ⟨b, o + i * 2, none⟩) hbs).trans (hc i hil).1
      have c1 : wr.cell? ⟨b, o + i * 2 + 1, none⟩ = some (.string (st cs[i].2)) := (hbl.cell (p := ⟨b, o + i * 2 + 1, none⟩) hbs).trans (hc i hil).2
      have hx := HX.out _ (List.getElem_mem hil)
      have HS := Lib.hid (celsN_take_succ hil)
      have hb1 := celB_le hx
      have hN : celsN (cs.take i) ≤ 131092 * 4398046511104 := by
        have := celsN_bound (cs.take i) (fun c hc => HX.out c (List.mem_of_mem_take hc))
        rw [List.length_take] at this
        have h2 : min i cs.length ≤ 4398046511104 := by omega
        exact Nat.le_trans this (Nat.mul_le_mul_left _ h2)
      generalize celsN (cs.take i) = N at *
      obtain ⟨x, hx0⟩ : ∃ x, cs[i] = x := ⟨_, rfl⟩
      rw [hx0] at c0 c1 hx HS hb1
      clear hx0 hc
      obtain ⟨k, v⟩ := x
      simp only at c0 c1 hx
      have HE : Hid ((celB (k, v)).length = (textB k).length + (textB v).length) := by unfold celB; rw [Hid, List.length_append]
      have l1 := textB_len hx.1
      have l2 := textB_len hx.2
      have s1 := fun (w : World) => ptext_any k w hx.1
      have s2 := fun (w : World) => ptext_any v w hx.2
      have hn := Blk.new wr 81 #[.string (st k), .string (st v)]
      have e0 : (wr.alloc (.cells #[.string (st k), .string (st v)] 81)).cell? ⟨wr.heap.size, 0, none⟩ = some (.string (st k)) := hn.cell 0
      have e1 : (wr.alloc (.cells #[.string (st k), .string (st v)] 81)).cell? ⟨wr.heap.size, 1, none⟩ = some (.string (st v)) := hn.cell 1
      have q1 := hbl.alloc hsz (.cells #[.string (st k), .string (st v)] 81)
      have hw1 : IntKind.i64.wrap (((textB k).length : Int) + ((textB v).length : Int)) = ((textB k).length : Int) + ((textB v).length : Int) := IntWalk.i64_in _ (by omega)
      have hw2 : IntKind.i64.wrap ((N : Int) + (((textB k).length : Int) + ((textB v).length : Int))) = (N : Int) + (((textB k).length : Int) + ((textB v).length : Int)) := IntWalk.i64_in _ (by omega)
      generalize (textB k).length = a at *
      generalize (textB v).length = b' at *
      go_wp2_with fail
      refine wp_region_grow_lit (by kernel_rfl) (by kernel_rfl) ?_
      apply Exists.intro
      apply And.intro
      · repeat (first
          | (apply wpGrow_skip rfl
             intro K hK
             go_simp
             refine hK _ ?_
             clear hK K)
          | (apply wpGrow_is rfl
             · intro wg hwg _
               have c0' := cell_later hwg e0
               have c1' := cell_later hwg e1
               unfold grows
               go_simp
               first
                 | exact grows_value _ _
                 | (apply grows_same; go_at_call_of 143 (Value.string (st k)); exact s1 _)
                 | (apply grows_same; go_at_call_of 143 (Value.string (st v)); exact s2 _)
             intro K hK
             go_simp
             refine hK _ ?_
             clear hK K))
        refine wpGrow_end (fun wg hwg _ => ?_)
        go_wp2_with fail
        go_roundw
        case rel => exact ⟨i + 1, by go_num, by rw [HS.out, HE.out]; go_num, by omega, q1.trans (hwg.mono q1.size)⟩
        case measure => simp [intOf]; omega
      · apply And.intro
        · repeat (first | exact trivial | (refine ⟨Stays.is _, ?_⟩) | (refine ⟨Stays.bs _, ?_⟩) | (refine ⟨Stays.pg _ _ _, ?_⟩))
        · rfl
    · obtain rfl : i = cs.length := by omega
      rw [List.take_length]
      go_wp2_with fail
      go_ret
      exact ⟨rfl, hbl⟩

set_option maxHeartbeats 400000 in
theorem great_wide (k v : List UInt8) (w : World) (hk : k.length ≤ 140737488355328) (hv : v.length ≤ 140737488355328) :
    Calls Tryz.prog 82 #[.agg #[.string (st k), .string (st v)]] w fun e w' => e = .returned (.bool (decide (480 < k.length + v.length))) ∧ Below w.heap.size w w' := by
  have hn := Blk.new w 81 #[.string (st k), .string (st v)]
  have q1 : Below w.heap.size w (w.alloc (.cells #[.string (st k), .string (st v)] 81)) := (Below.refl _ _).alloc (Nat.le_refl _) _
  have hw1 : IntKind.i64.wrap ((k.length : Int) + (v.length : Int)) = (k.length : Int) + (v.length : Int) := IntWalk.i64_in _ (by omega)
  go_enter Tryz.func82, Tryz.ntmps82
  go_wp2_with fail
  go_ret
  refine ⟨?_, q1⟩
  have : decide ((480 : Int) < (k.length : Int) + (v.length : Int)) = decide (480 < k.length + v.length) := by rw [decide_eq_decide]; omega
  simp [← this]

set_option maxHeartbeats 1000000 in
set_option maxRecDepth 100000 in
theorem psize_watt (S : Nat → Prop) (leaf : Bool) (next : Int) (nn a : Nat) (v0 : Value) (cs : List Cel) (w : World) (hm : WMid cs) (hr : Cs S w v0 cs) (hcase : (next < 0 ∧ nn = 0) ∨ next = (nn : Int)) (h64 : nn < 9223372036854775808) (ha : a ≤ 10)
    (s1 : ∀ w, Calls Tryz.prog 125 #[.int .u64 (nn : Int)] w fun e w' => e = .returned (.int .i64 (a : Int)) ∧ w = w') :
    Calls Tryz.prog 83 #[.agg #[.bool leaf, .int .i64 next, v0]] w fun e w' => e = .returned (.int .i64 ((1 + a + (varB cs.length).length + celsN cs + 4 : Nat) : Int)) ∧ Below w.heap.size w w' := by
  have HR := Lib.hid hr.lt
  obtain ⟨A, c, rfl, hlc, hcm, hA0, _⟩ := hr.at
  have hb := Blk.new w 36 #[.bool leaf, .int .i64 next, .slice A cs.length c]
  have e1 : (w.alloc (.cells #[.bool leaf, .int .i64 next, .slice A cs.length c] 36)).cell? ⟨w.heap.size, 1, none⟩ = some (.int .i64 next) := hb.cell 1
  have e2 : (w.alloc (.cells #[.bool leaf, .int .i64 next, .slice A cs.length c] 36)).cell? ⟨w.heap.size, 2, none⟩ = some (.slice A cs.length c) := hb.cell 2
  have q1 : Below w.heap.size w (w.alloc (.cells #[.bool leaf, .int .i64 next, .slice A cs.length c] 36)) := (Below.refl _ _).alloc (Nat.le_refl _) _
  have hc64 : cs.length < U64 := by have := hm.1; unfold U64; omega
  have s2 := fun (w : World) => size_any cs.length w hc64
  have s3 : Hid (∀ wg, Below (w.alloc (.cells #[.bool leaf, .int .i64 next, .slice A cs.length c] 36)).heap.size (w.alloc (.cells #[.bool leaf, .int .i64 next, .slice A cs.length c] 36)) wg → Calls Tryz.prog 126 #[.slice A cs.length c] wg fun e w' => e = .returned (.int .i64 (celsN cs : Int)) ∧ Below wg.heap.size wg w') :=
    fun wg hwg => pbytes_wide _ _ cs wg hm (HR.out.up (q1.trans (hwg.mono q1.size)))
  have l2 := varB_le10 hc64
  have l3 : celsN cs ≤ 131092 * 4398046511104 := Nat.le_trans (celsN_bound cs hm.2) (Nat.mul_le_mul_left _ hm.1)
  have hml := hm.1
  have hw1 : IntKind.u64.wrap (nn : Int) = (nn : Int) := wrap_u64 (by omega) (by unfold U64; omega)
  have hw2 : IntKind.u64.wrap (cs.length : Int) = (cs.length : Int) := wrap_u64 (by omega) (by unfold U64; omega)
  generalize (varB cs.length).length = b at *
  generalize celsN cs = N at *
  have hw0 : IntKind.u64.wrap 0 = 0 := by decide
  have hif : (if (nn : Int) < 0 then (0 : Int) else (nn : Int)) = (nn : Int) := if_neg (by omega)
  rcases hcase with ⟨h0, rfl⟩ | rfl
  all_goals
    go_enter Tryz.func83, Tryz.ntmps83
    go_wp2_with fail
    refine wp_region_grow_lit (by kernel_rfl) (by kernel_rfl) ?_
    apply Exists.intro
    apply And.intro
    · repeat (first
        | (apply wpGrow_skip rfl
           intro K hK
           go_simp
           refine hK _ ?_
           clear hK K)
        | (apply wpGrow_is rfl
           · intro wg hwg _
             have c1' := cell_later hwg e1
             have c2' := cell_later hwg e2
             unfold grows
             go_simp
             first
               | exact grows_value _ _
               | (apply grows_same; go_at_call_of 125 (Value.int .u64 0); exact s1 _)
               | (apply grows_same; go_at_call_of 125 (Value.int .u64 (nn : Int)); exact s1 _)
               | (apply grows_same; go_at_call_of 125 (Value.int .u64 (cs.length : Int)); exact s2 _)
               | (apply grows_call; go_at_call 126; exact s3.out wg hwg)
           intro K hK
           go_simp
           refine hK _ ?_
           clear hK K))
      refine wpGrow_end (fun wg hwg _ => ?_)
      go_wp2_with fail
      go_ret
      exact ⟨by simp [IntKind.wrap, IntKind.bits, IntKind.signed]; omega, q1.trans (hwg.mono q1.size)⟩
    · apply And.intro
      · repeat (first | exact trivial | (refine ⟨Stays.is _, ?_⟩) | (refine ⟨Stays.bs _, ?_⟩) | (refine ⟨Stays.pg _ _ _, ?_⟩))
      · rfl
theorem psize_wide (S : Nat → Prop) (leaf : Bool) (next : Int) (v0 : Value) (cs : List Cel) (w : World) (hn : -9223372036854775808 ≤ next ∧ next ≤ 9223372036854775807) (hm : WMid cs) (hr : Cs S w v0 cs) :
    Calls Tryz.prog 83 #[.agg #[.bool leaf, .int .i64 next, v0]] w fun e w' => e = .returned (.int .i64 (pgSz next cs : Int)) ∧ Below w.heap.size w w' :=
  psize_watt S leaf next next.toNat _ v0 cs w hm hr (by omega) (by omega) (varB_le10 (by unfold U64; omega)) fun w => size_any next.toNat w (by unfold U64; omega)
set_option maxHeartbeats 2000000 in
set_option maxRecDepth 100000 in
theorem pcheck_wide (S : Nat → Prop) (leaf : Bool) (next : Int) (v0 : Value) (cs : List Cel) (w : World) (hn : -9223372036854775808 ≤ next ∧ next ≤ 9223372036854775807) (hm : Wd cs) (hr : Cs S w v0 cs) :
    Calls Tryz.prog 36 #[.agg #[.bool leaf, .int .i64 next, v0]] w fun e w' => e = .returned (.int .i64 (pgChk next cs : Int)) ∧ Below w.heap.size w w' := by
  have HR := Lib.hid hr.lt
  have hlt := hr.lt
  obtain ⟨A, c, rfl, hlc, hcm, hA0, hA⟩ := hlt.at
  have HA := Lib.hid hA
  have hb := Blk.new w 36 #[.bool leaf, .int .i64 next, .slice A cs.length c]
  have e1 : (w.alloc (.cells #[.bool leaf, .int .i64 next, .slice A cs.length c] 36)).cell? ⟨w.heap.size, 1, none⟩ = some (.int .i64 next) := hb.cell 1
  have e2 : (w.alloc (.cells #[.bool leaf, .int .i64 next, .slice A cs.length c] 36)).cell? ⟨w.heap.size, 2, none⟩ = some (.slice A cs.length c) := hb.cell 2
  have q1 : Below w.heap.size w (w.alloc (.cells #[.bool leaf, .int .i64 next, .slice A cs.length c] 36)) := (Below.refl _ _).alloc (Nat.le_refl _) _
  clear hA hr hlt
  by_cases hnx : next < 0 ∨ 256 < next
  · have HC : Hid (pgChk next cs = 101) := by unfold pgChk; rw [Hid, if_pos hnx]
    rcases Decidable.em (next < 0) with h0 | h0
    case' inl => have hx := h0
    case' inr => have hx : 256 < next := hnx.resolve_left h0
    all_goals
      clear hnx
      go_enter Tryz.func36, Tryz.ntmps36
      go_wp2_with fail
      go_ret
      rw [HC.out]
      exact ⟨rfl, q1⟩
  · have h0 : ¬ next < 0 := fun h => hnx (.inl h)
    have h1 : ¬ 256 < next := fun h => hnx (.inr h)
    have HC : Hid (pgChk next cs = if chk none cs ≠ 0 then chk none cs else if 2048 < pgSz next cs then 100 else 0) := by unfold pgChk; rw [Hid, if_neg hnx]
    have HX := Lib.hid hm.2
    have hml := hm.1
    have HM := Lib.hid hm
    clear hnx hm
    go_enter Tryz.func36, Tryz.ntmps36
    go_wp2_with fail
    generalize hW : w.alloc (.cells #[.bool leaf, .int .i64 next, .slice A cs.length c] 36) = W at *
    clear hW
    have HB := Lib.hid hb
    have hBW := hb.lt
    go_loopw [16] (fun iv wr => ∃ i : Nat, iv = .int .i64 (i : Int) ∧ i ≤ cs.length ∧ Hid (chk none cs = chk (prevAt cs i) (cs.drop i)) ∧ Hid (∀ y ∈ cs.take i, y.1.length + y.2.length ≤ 480) ∧ Below W.heap.size W wr) (fun iv _ => cs.length - (intOf iv).toNat)
    case atStart => exact ⟨0, rfl, by omega, by rw [prevAt_zero]; rfl, (fun y hy => by simp at hy), Below.refl _ _⟩
    case round =>
      obtain ⟨i, rfl, hi, hck, hsm, hbl⟩ := hrel
      have hsz := hbl.size
      have qr := q1.trans (hbl.mono q1.size)
      by_cases hil : i < cs.length
      · obtain ⟨b, o, rfl, hbs, hc⟩ := HA.out (by omega)
        have c0 : wr.cell? ⟨b, o + i * 2, none⟩ = some (.string (st cs[i].1)) := (qr.cell (p := ⟨b, o + i * 2, none⟩) hbs).trans (hc i hil).1
        have c1 : wr.cell? ⟨b, o + i * 2 + 1, none⟩ = some (.string (st cs[i].2)) := (qr.cell (p := ⟨b, o + i * 2 + 1, none⟩) hbs).trans (hc i hil).2
        have hx := HX.out _ (List.getElem_mem hil)
        have HD := Lib.hid (hck.out.trans (chk_drop hil))
        have hbx := HB.out.later hbl
        obtain ⟨x, hx0⟩ : ∃ x, cs[i] = x := ⟨_, rfl⟩
        rw [hx0] at c0 c1 hx HD
        have HX0 := Lib.hid hx0
        have HSM : Hid (cs[i].1.length + cs[i].2.length ≤ 480 → ∀ y ∈ cs.take (i + 1), y.1.length + y.2.length ≤ 480) := fun hs y hy => by
          rw [List.take_succ_eq_append_getElem hil] at hy
          rcases List.mem_append.1 hy with hy | hy
          · exact hsm.out y hy
          · rw [List.mem_singleton.1 hy]; exact hs
        rw [hx0] at HSM
        clear hx0
        obtain ⟨k, v⟩ := x
        simp only at c0 c1 hx HD
        have hn4 := Blk.new wr 81 #[.string (st k), .string (st v)]
        have hbx4 := hbx.alloc (.cells #[.string (st k), .string (st v)] 81)
        have q4 := hbl.alloc hsz (.cells #[.string (st k), .string (st v)] 81)
        have e4 : (wr.alloc (.cells #[.string (st k), .string (st v)] 81)).cell? ⟨wr.heap.size, 0, none⟩ = some (.string (st k)) := hn4.cell 0
        have hc' : ∀ j (hj : j < cs.length), (wr.alloc (.cells #[.string (st k), .string (st v)] 81)).cell? ⟨b, o + j * 2, none⟩ = some (.string (st cs[j].1)) := fun j hj => ((qr.alloc (Nat.le_trans q1.size hsz) _).cell (p := ⟨b, o + j * 2, none⟩) hbs).trans (hc j hj).1
        have HCC := Lib.hid hc'
        clear hc hc'
        go_wp2_with fail
        refine (great_wide k v _ hx.1 hx.2).mono ?_
        rintro e w5 ⟨rfl, hbl5⟩
        have hbx5 := hbx4.later hbl5
        have q5 := q4.trans (hbl5.mono q4.size)
        by_cases hg : 480 < k.length + v.length
        · have HE : Hid (pgChk next cs = 100) := by
            have h := HD.out
            rw [if_pos hg] at h
            rw [Hid, HC.out, if_pos (by rw [h]; decide), h]
          have t0 : decide (480 < k.length + v.length) = true := decide_eq_true hg
          clear hg HD HC
          go_wp2_with fail
          go_ret
          rw [HE.out]
          exact ⟨rfl, q1.trans (q5.mono q1.size)⟩
        · have t0 : decide (480 < k.length + v.length) = false := decide_eq_false hg
          have HD2 : Hid (chk none cs = if sunk (prevAt cs i) k = true then 101 else chk (prevAt cs (i + 1)) (cs.drop (i + 1))) := by
            have h := HD.out
            rw [if_neg hg] at h
            exact h
          have e5 := cell_later hbl5 e4
          have g2 : w5.cell? ⟨w.heap.size, 2, none⟩ = some (.slice (some ⟨b, o, none⟩) cs.length c) := hbx5.cell 2
          have HSN := Lib.hid (HSM.out (by omega))
          clear hg HD HSM hsm
          rcases i with _ | j
          · have HD3 : Hid (chk none cs = chk (prevAt cs 1) (cs.drop 1)) := by
              have h := HD2.out
              rw [prevAt_zero] at h
              rw [if_neg (by simp [sunk])] at h
              exact h
            go_wp2_with fail
            refine wp_region_grow_lit (by kernel_rfl) (by kernel_rfl) ?_
            apply Exists.intro
            apply And.intro
            · repeat (first
                | (apply wpGrow_skip rfl
                   intro K hK
                   go_simp
                   refine hK _ ?_
                   clear hK K)
                | (apply wpGrow_is rfl
                   · intro wg hwg _
                     skip
                     unfold grows
                     go_simp
                     first
                       | exact grows_value _ _
                   intro K hK
                   go_simp
                   refine hK _ ?_
                   clear hK K))
              refine wpGrow_end (fun wg hwg _ => ?_)
              go_wp2_with fail
              go_roundw
              case rel => exact ⟨1, by go_num, by omega, HD3, HSN.out, q5.trans (hwg.mono q5.size)⟩
              case measure => simp [intOf]; omega
            · apply And.intro
              · repeat (first | exact trivial | (refine ⟨Stays.is _, ?_⟩) | (refine ⟨Stays.bs _, ?_⟩) | (refine ⟨Stays.pg _ _ _, ?_⟩))
              · rfl
          · have hjl : j < cs.length := by omega
            have c5 := cell_later hbl5 (HCC.out j hjl)
            have HP := Lib.hid (prevAt_succ hjl)
            obtain ⟨p, hp⟩ : ∃ p, cs[j].1 = p := ⟨_, rfl⟩
            rw [hp] at c5 HP
            have hib : (0 : Int) ≤ (j : Int) := by omega
            have hwj : IntKind.i64.wrap (j : Int) = (j : Int) := IntWalk.i64_in _ (by omega)
            cases hbs2 : Op.bytesLess p k with
            | true =>
              have HD3 : Hid (chk none cs = chk (prevAt cs (j + 1 + 1)) (cs.drop (j + 1 + 1))) := by
                have h := HD2.out
                rw [HP.out, if_neg (by simp [sunk, hbs2])] at h
                exact h
              clear hp
              go_wp2_with fail
              refine wp_region_grow_lit (by kernel_rfl) (by kernel_rfl) ?_
              apply Exists.intro
              apply And.intro
              · repeat (first
                  | (apply wpGrow_skip rfl
                     intro K hK
                     go_simp
                     refine hK _ ?_
                     clear hK K)
                  | (apply wpGrow_is rfl
                     · intro wg hwg _
                       have c5' := cell_later hwg c5
                       have e5' := cell_later hwg e5
                       have g2' := cell_later hwg g2
                       unfold grows
                       go_simp
                       first
                         | exact grows_value _ _
                     intro K hK
                     go_simp
                     refine hK _ ?_
                     clear hK K))
                refine wpGrow_end (fun wg hwg _ => ?_)
                go_wp2_with fail
                go_roundw
                case rel => exact ⟨j + 1 + 1, by go_num, by omega, HD3, HSN.out, q5.trans (hwg.mono q5.size)⟩
                case measure => simp [intOf]; omega
              · apply And.intro
                · repeat (first | exact trivial | (refine ⟨Stays.is _, ?_⟩) | (refine ⟨Stays.bs _, ?_⟩) | (refine ⟨Stays.pg _ _ _, ?_⟩))
                · rfl
            | false =>
              have HE : Hid (pgChk next cs = 101) := by
                have h := HD2.out
                rw [HP.out, if_pos (by simp [sunk, hbs2])] at h
                rw [Hid, HC.out, if_pos (by rw [h]; decide), h]
              clear hp
              go_wp2_with fail
              refine wp_region_grow_lit (by kernel_rfl) (by kernel_rfl) ?_
              apply Exists.intro
              apply And.intro
              · repeat (first
                  | (apply wpGrow_skip rfl
                     intro K hK
                     go_simp
                     refine hK _ ?_
                     clear hK K)
                  | (apply wpGrow_is rfl
                     · intro wg hwg _
                       have c5' := cell_later hwg c5
                       have e5' := cell_later hwg e5
                       have g2' := cell_later hwg g2
                       unfold grows
                       go_simp
                       first
                         | exact grows_value _ _
                     intro K hK
                     go_simp
                     refine hK _ ?_
                     clear hK K))
                refine wpGrow_end (fun wg hwg _ => ?_)
                go_wp2_with fail
                go_ret
                rw [HE.out]
                exact ⟨rfl, q1.trans ((q5.trans (hwg.mono q5.size)).mono q1.size)⟩
              · apply And.intro
                · repeat (first | exact trivial | (refine ⟨Stays.is _, ?_⟩) | (refine ⟨Stays.bs _, ?_⟩) | (refine ⟨Stays.pg _ _ _, ?_⟩))
                · rfl
      · obtain rfl : i = cs.length := by omega
        have hbx := HB.out.later hbl
        have HE : Hid (pgChk next cs = if 2048 < pgSz next cs then 100 else 0) := by
          have h := hck.out
          rw [chk_end] at h
          rw [Hid, HC.out, if_neg (by rw [h]; decide)]
        have g0 : wr.cell? ⟨w.heap.size, 0, none⟩ = some (.bool leaf) := hbx.cell 0
        have g1 : wr.cell? ⟨w.heap.size, 1, none⟩ = some (.int .i64 next) := hbx.cell 1
        have g2 : wr.cell? ⟨w.heap.size, 2, none⟩ = some (.slice A cs.length c) := hbx.cell 2
        have HRr := Lib.hid (HR.out.up qr)
        have HM2 : Hid (WMid cs) := ⟨hml, fun y hy => by have := hsm.out y (by rw [List.take_length]; exact hy); omega⟩
        clear hck HC hsm
        go_wp2_with fail
        refine (psize_wide _ leaf next _ cs wr hn HM2.out HRr.out).mono ?_
        rintro e w6 ⟨rfl, hbl6⟩
        generalize pgSz next cs = N at *
        by_cases hN : 2048 < N
        · have HE2 : Hid (pgChk next cs = 100) := by rw [Hid, HE.out, if_pos hN]
          clear HE
          go_wp2_with fail
          go_ret
          rw [HE2.out]
          exact ⟨rfl, qr.trans (hbl6.mono qr.size)⟩
        · have HE2 : Hid (pgChk next cs = 0) := by rw [Hid, HE.out, if_neg hN]
          clear HE
          go_wp2_with fail
          go_ret
          rw [HE2.out]
          exact ⟨rfl, qr.trans (hbl6.mono qr.size)⟩

theorem mid_of_chk {next : Int} {cs : List Cel} (h : pgChk next cs = 0) : Mid cs := by
  have h1 := pgChk_ok h
  have hc : chk none cs = 0 := by
    unfold pgChk at h
    rw [if_neg (by omega)] at h
    by_cases hc : chk none cs = 0
    · exact hc
    · rw [if_pos hc] at h; exact h
  have h2 := celsN_ge cs
  have h3 := h1.2.2
  unfold pgSz at h3
  exact ⟨by omega, fun c hm => by have := chk_small none _ hc c hm; omega⟩
set_option maxHeartbeats 1000000 in
set_option maxRecDepth 100000 in
theorem pgbytes_wide (S : Nat → Prop) (leaf : Bool) (next : Int) (v0 : Value) (cs : List Cel) (w : World) (hbit : BitsOk w) (hn : -9223372036854775808 ≤ next ∧ next ≤ 9223372036854775807) (hm : Wd cs) (hr : Cs S w v0 cs) :
    Calls Tryz.prog 8 #[.agg #[.bool leaf, .int .i64 next, v0]] w (PBytesPost leaf next cs w) := by
  by_cases hok : pgChk next cs = 0
  · exact pgbytes_any S leaf next v0 cs w hbit hn (mid_of_chk hok) hr
  · have HOK := Lib.hid hok
    have hlt := hr.lt
    obtain ⟨A, c, rfl, hlc, hcm, hA0, _⟩ := hr.at
    have hb := Blk.new w 36 #[.bool leaf, .int .i64 next, .slice A cs.length c]
    have q1 : Below w.heap.size w (w.alloc (.cells #[.bool leaf, .int .i64 next, .slice A cs.length c] 36)) := (Below.refl _ _).alloc (Nat.le_refl _) _
    have HC : Hid (∀ W, Below w.heap.size w W → Calls Tryz.prog 36 #[.agg #[.bool leaf, .int .i64 next, .slice A cs.length c]] W fun e w' => e = .returned (.int .i64 (pgChk next cs : Int)) ∧ Below W.heap.size W w') := fun W hW => pcheck_wide _ leaf next _ cs W hn hm (hlt.up hW)
    have t1 : ((pgChk next cs : Int) != 0) = true := by rw [bne_iff_ne]; omega
    obtain ⟨P, hP⟩ : ∃ P, pgChk next cs = P := ⟨_, rfl⟩
    have HP := Lib.hid hP
    rw [hP] at t1 HC
    have e0 : (w.alloc (.cells #[.bool leaf, .int .i64 next, .slice A cs.length c] 36)).cell? ⟨w.heap.size, 0, none⟩ = some (.bool leaf) := hb.cell 0
    have e1 : (w.alloc (.cells #[.bool leaf, .int .i64 next, .slice A cs.length c] 36)).cell? ⟨w.heap.size, 1, none⟩ = some (.int .i64 next) := hb.cell 1
    have e2 : (w.alloc (.cells #[.bool leaf, .int .i64 next, .slice A cs.length c] 36)).cell? ⟨w.heap.size, 2, none⟩ = some (.slice A cs.length c) := hb.cell 2
    unfold PBytesPost
    rw [hP]
    clear hok hP hlt
    go_enter Tryz.func8, Tryz.ntmps8
    go_wp2_with fail
    refine (HC.out _ q1).mono ?_
    rintro e w1 ⟨rfl, hb1⟩
    go_wp2_with fail
    go_ret2
    exact ⟨fun h => absurd (HP.out.trans h) HOK.out, fun _ => rfl, q1.trans (hb1.mono q1.size)⟩
end Go.Proofs.YthbhkdhljlganaaGreatDoor

namespace Go.Proofs.YthbhkdhljlganaaGreatDoor
open Go
set_option linter.unusedVariables false

/-! ### The chain of the leaves -/
def headI (r : List (Nat × Nat)) (e : Nat) : Nat := match r with
  | [] => e
  | x :: _ => x.1
def ChTo : List (Nat × Nat) → Nat → Prop
  | [], _ => True
  | x :: r, e => x.2 = headI r e ∧ ChTo r e
theorem headI_app (l r : List (Nat × Nat)) (e : Nat) : headI (l ++ r) e = headI l (headI r e) := by cases l <;> rfl
theorem ChTo_app : ∀ (l : List (Nat × Nat)) {r : List (Nat × Nat)} {e : Nat}, ChTo (l ++ r) e ↔ ChTo l (headI r e) ∧ ChTo r e
  | [], r, e => by simp [ChTo]
  | x :: l, r, e => by
    show x.2 = headI (l ++ r) e ∧ ChTo (l ++ r) e ↔ (x.2 = headI l (headI r e) ∧ ChTo l (headI r e)) ∧ ChTo r e
    rw [headI_app, ChTo_app l, and_assoc]

/-! ### How full pages are -/
/-- The least cells of a leaf, of an inner page; the longest key. -/
structure Prm where
  a : Nat
  m : Nat
  K : Nat
def FlT (Q : Prm) : (j : Nat) → Ct j → Prop
  | 0, c => Q.a ≤ c.2.length
  | j + 1, ks => Q.m ≤ List.length (α := Kid j) ks ∧ ∀ k, List.Mem (α := Kid j) k ks → FlT Q j k.2.2
def FlL {j : Nat} (Q : Prm) (ks : List (Kid j)) : Prop := ∀ k ∈ ks, FlT Q j k.2.2
def FlIn (Q : Prm) : (j : Nat) → Ct j → Prop
  | 0, _ => True
  | j + 1, ks => FlL (j := j) Q ks
def Ct.n : (j : Nat) → Ct j → Nat
  | 0, c => c.2.length
  | j + 1, ks => List.length (α := Kid j) ks
def minN (Q : Prm) : Nat → Nat
  | 0 => Q.a
  | _ + 1 => Q.m
def rootN : Nat → Nat
  | 0 => 0
  | _ + 1 => 2
theorem Fl_iff (Q : Prm) : ∀ (j : Nat) (c : Ct j), FlT Q j c ↔ minN Q j ≤ Ct.n j c ∧ FlIn Q j c
  | 0, c => by simp [FlT, minN, Ct.n, FlIn]
  | j + 1, c => Iff.rfl
theorem Ct.n_page : ∀ (j : Nat) (c : Ct j), (Ct.page j c).2.2.length = Ct.n j c
  | 0, c => rfl
  | j + 1, c => leads_len _
theorem FlL_app {j : Nat} {Q : Prm} {l r : List (Kid j)} : FlL Q (l ++ r) ↔ FlL Q l ∧ FlL Q r := by
  unfold FlL
  constructor
  · exact fun h => ⟨fun k hk => h k (by simp [hk]), fun k hk => h k (by simp [hk])⟩
  · rintro ⟨h1, h2⟩ k hk
    rcases List.mem_append.1 hk with hk | hk
    · exact h1 k hk
    · exact h2 k hk
theorem FlL_cons {j : Nat} {Q : Prm} {k : Kid j} {r : List (Kid j)} : FlL Q (k :: r) ↔ FlT Q j k.2.2 ∧ FlL Q r := by
  unfold FlL
  constructor
  · exact fun h => ⟨h k (by simp), fun x hx => h x (by simp [hx])⟩
  · rintro ⟨h1, h2⟩ x hx
    rcases List.mem_cons.1 hx with rfl | hx
    · exact h1
    · exact h2 x hx
def Cx.need (Q : Prm) : {j D : Nat} → Cx j D → Nat
  | j, _, .top => rootN j
  | j, _, .step _ _ _ _ _ => minN Q j
def Cx.FlC (Q : Prm) : {j D : Nat} → Cx j D → Prop
  | _, _, .top => True
  | _, _, .step _ l _ r up => FlL Q l ∧ FlL Q r ∧ up.need Q ≤ l.length + 1 + r.length ∧ up.FlC Q
def KOk (K : Nat) (x : Pag) : Prop := x.2.1 < 90 ∧ ∀ c ∈ x.2.2, c.1.length ≤ K
theorem POk.asc {x : Pag} (h : POk x) : Asc x.2.2 := (chk_rises none _ h.parts.2.1).asc
theorem sz_len {x : Pag} : 2 * x.2.2.length + 7 ≤ szP x := by
  unfold szP pgSz
  have h1 := celsN_ge x.2.2
  have h2 := varB_len (x.2.1 : Int).toNat
  have h3 := varB_len x.2.2.length
  omega
end Go.Proofs.YthbhkdhljlganaaGreatDoor

namespace Go.Proofs.YthbhkdhljlganaaGreatDoor
open Go
set_option linter.unusedVariables false

/-- All pages of a tree. -/
def allP (D : Nat) (c : Ct D) : List (Nat × Pag) := (0, Ct.page D c) :: Ct.subs D c
/-- A TREE STANDS IN A PAGER. -/
structure Tree (Q : Prm) (P : Pgr) (c : Int → List UInt8) (D : Nat) (t : Ct D) : Prop where
  rep : RepP P c (allP D t)
  wf : Wf D [] none t
  ok : ∀ q ∈ allP D t, POk q.2 ∧ KOk Q.K q.2
  ch : ChTo (Ct.lvs D 0 t) 0
  fl : FlIn Q D t
  root : rootN D ≤ Ct.n D t
section
variable {Q : Prm} {P : Pgr} {c : Int → List UInt8} {j D : Nat} {h : Nat} {t : Ct j} {st : Pag}
end
end Go.Proofs.YthbhkdhljlganaaGreatDoor

namespace Go.Proofs.YthbhkdhljlganaaGreatDoor
open Go
set_option linter.unusedVariables false

theorem perm_of_count {α : Type} [BEq α] [LawfulBEq α] {l l' : List α} (h : ∀ a, l.count a = l'.count a) : l.Perm l' := List.perm_iff_count.2 h
theorem kid_in {j : Nat} {ks : List (Kid j)} {k : Kid j} (h : k ∈ ks) : (k.2.1, Ct.page j k.2.2) ∈ subsL ks := List.mem_flatMap.2 ⟨k, h, by simp⟩
section
variable {Q : Prm} {P : Pgr} {c : Int → List UInt8} {j D : Nat} {h : Nat} {t : Ct j} {st : Pag}
theorem pgs_step (id : Nat) (l r : List (Kid j)) (k : Key) (up : Cx (j + 1) D) (h : Nat) : (Cx.step id l k r up).pgs h = [(id, stepPg l k h r)] ++ (subsL l ++ subsL r) ++ up.pgs id := rfl
end
end Go.Proofs.YthbhkdhljlganaaGreatDoor

namespace Go.Proofs.YthbhkdhljlganaaGreatDoor
open Go
set_option linter.unusedVariables false

/-! ### Sums over pages, by height and number of cells -/
def sumK {j : Nat} (f : Ct j → Nat) : List (Kid j) → Nat
  | [] => 0
  | k :: r => f k.2.2 + sumK f r
def wS (wt : Nat → Nat → Nat) : (j : Nat) → Ct j → Nat
  | 0, c => wt 0 c.2.length
  | j + 1, ks => wt (j + 1) (List.length (α := Kid j) ks) + sumK (j := j) (wS wt j) ks
def Cx.wS (wt : Nat → Nat → Nat) : {j D : Nat} → Cx j D → Nat
  | _, _, .top => 0
  | _, _, .step (j := j) _ l _ r up => wt (j + 1) (l.length + 1 + r.length) + sumK (Go.Proofs.YthbhkdhljlganaaGreatDoor.wS wt j) l + sumK (Go.Proofs.YthbhkdhljlganaaGreatDoor.wS wt j) r + up.wS wt
section
variable {Q : Prm} {P : Pgr} {c : Int → List UInt8} {j D : Nat} {h : Nat} {t : Ct j} {st : Pag}
def Cx.dep : {j D : Nat} → Cx j D → Nat
  | _, _, .top => 0
  | _, _, .step _ _ _ _ up => up.dep + 1
theorem Cx.depth : ∀ {j D : Nat} (cx : Cx j D), j + cx.dep = D
  | _, _, .top => rfl
  | j, D, .step _ _ _ _ up => by
    have := up.depth
    show j + (up.dep + 1) = D
    omega
end
end Go.Proofs.YthbhkdhljlganaaGreatDoor

namespace Go.Proofs.YthbhkdhljlganaaGreatDoor
open Go
set_option linter.unusedVariables false

theorem WfL.bounds {j : Nat} {l r : List (Kid j)} {lo' : Key} {hi' : Option Key} {k : Key} (h1 : nextK l (some k) = some lo') (h2 : WfL (Wf j) l (some k)) : ¬ Lt k lo' := by
  cases l with
  | nil => injection h1 with h1; subst h1; exact fun h => h.irrefl
  | cons a l =>
    obtain ⟨_, a2, a3⟩ := WfL.all (Wf.all j) (a :: l) _ h2
    obtain rfl : a.1 = lo' := by injection h1
    exact (((a3 a.1 rfl).2 (a.1, varB a.2.1) (by simp [leads])).2 k rfl).not
/-- What lies between a page's bounds lies between its parent's. -/
theorem Cx.WfC.up {j D : Nat} {id : Nat} {l r : List (Kid j)} {k : Key} {up : Cx (j + 1) D} {lo : Key} {hi : Option Key} (w : (Cx.step id l k r up).WfC lo hi) :
    ∃ lo' hi', up.WfC lo' hi' ∧ ∀ x, inB lo hi x → inB lo' hi' x := by
  obtain ⟨rfl, lo', hi', h1, rfl, h3, h4, h5, h6⟩ := w
  refine ⟨lo', hi', h1, fun x hx => ⟨le_trans_le (WfL.bounds (r := r) (hi' := hi') h3 h4) hx.1, fun y hy => ?_⟩⟩
  cases r with
  | nil => exact hx.2 y hy
  | cons a r =>
    obtain ⟨_, b2, b3⟩ := WfL.all (Wf.all j) (a :: r) _ h6
    exact (hx.2 a.1 rfl).trans (((b3 a.1 rfl).2 (a.1, varB a.2.1) (by simp [leads])).2 y hy)
theorem Cx.WfC.sides : ∀ {j D : Nat} (cx : Cx j D) {lo : Key} {hi : Option Key} {key : Key}, cx.WfC lo hi → inB lo hi key → (∀ x ∈ cx.cl, Lt x.1 lo) ∧ ∀ x ∈ cx.cr, Lt key x.1
  | _, _, .top, lo, hi, key, w, hk => ⟨fun x hx => (by cases hx), fun x hx => (by cases hx)⟩
  | _, _, .step (j := j) id l k r up, lo, hi, key, w, hk => by
    obtain ⟨lo', hi', h1, h2⟩ := w.up
    obtain ⟨s1, s2⟩ := Cx.WfC.sides up h1 (h2 key hk)
    obtain ⟨rfl, lo'', hi'', g1, rfl, g3, g4, g5, g6⟩ := w
    have hll : ¬ Lt lo lo'' := WfL.bounds (r := r) (hi' := hi'') g3 g4
    obtain ⟨a1, _, a3⟩ := WfL.all (Wf.all j) l _ g4
    obtain ⟨b1, _, b3⟩ := WfL.all (Wf.all j) r _ g6
    have hl : ∀ x ∈ cellsL l, Lt x.1 lo := by
      intro x hx
      cases l with
      | nil => simp [cellsL] at hx
      | cons a l => exact ((a3 a.1 rfl).1 x hx).2 lo rfl
    refine ⟨fun x hx => ?_, fun x hx => ?_⟩
    · rcases List.mem_append.1 hx with hx | hx
      · have hin : inB lo'' hi'' lo := by
          refine ⟨hll, fun y hy => ?_⟩
          cases r with
          | nil => exact g5 y hy
          | cons a r => exact (g5 a.1 rfl).trans (((WfL.all (Wf.all j) (a :: r) _ g6).2.2 a.1 rfl).2 (a.1, varB a.2.1) (by simp [leads]) |>.2 y hy)
        obtain ⟨t1, _⟩ := Cx.WfC.sides up g1 hin
        exact lt_trans_le (t1 x hx) hll
      · exact hl x hx
    · rcases List.mem_append.1 hx with hx | hx
      · cases r with
        | nil => simp [cellsL] at hx
        | cons a r => exact lt_trans_le (hk.2 a.1 rfl) ((b3 a.1 rfl).1 x hx).1
      · exact s2 x hx

/-! ### The way down -/
structure At (Q : Prm) (T : (D : Nat) × Ct D) (key : Key) {j D : Nat} (cx : Cx j D) (h : Nat) (t : Ct j) : Prop where
  whole : T = ⟨D, cx.plug h t⟩
  root : cx.root h
  wf : ∃ lo hi, cx.WfC lo hi ∧ Wf j lo hi t ∧ inB lo hi key
  cfl : cx.FlC Q
  fl : FlIn Q j t
  need : cx.need Q ≤ Ct.n j t
theorem leads_at {j : Nat} {ks : List (Kid j)} {i : Nat} (h : i < ks.length) : (leads ks)[i]? = some (ks[i].1, varB ks[i].2.1) := by
  unfold leads
  rw [List.getElem?_map, List.getElem?_eq_getElem h]
  rfl
theorem below_at {j : Nat} {ks : List (Kid j)} {lo : Key} {hi : Option Key} {key : Key} (h1 : nextK ks none = some lo) (h2 : WfL (Wf j) ks hi) (hk : inB lo hi key) :
    ∃ l k r, ks = l ++ k :: r ∧ belowN (leads ks) key = l.length ∧ inB k.1 (nextK r hi) key := by
  obtain ⟨_, a2, a3⟩ := WfL.all (Wf.all j) ks hi h2
  have hne : ks ≠ [] := by rintro rfl; cases h1
  have hlen := leads_len ks
  have hge : ∀ i, (hi : i < ks.length) → findK (leads ks) key ≤ i → ¬ Lt ks[i].1 key := by
    intro i hi hf
    have hm : (ks[i].1, varB ks[i].2.1) ∈ (leads ks).drop (findK (leads ks) key) := by
      rw [List.mem_drop_iff_getElem]
      refine ⟨i - findK (leads ks) key, by rw [hlen]; omega, ?_⟩
      simp only [leads, List.getElem_map]
      have : findK (List.map (fun k => (k.1, varB k.2.1)) ks) key + (i - findK (List.map (fun k => (k.1, varB k.2.1)) ks) key) = i := by
        have : findK (leads ks) key = findK (List.map (fun k => (k.1, varB k.2.1)) ks) key := rfl
        omega
      simp only [this]
    exact drop_ge a2 hm
  have hltt : ∀ i, (hi : i < ks.length) → i < findK (leads ks) key → Lt ks[i].1 key := by
    intro i hi hf
    have hm : (ks[i].1, varB ks[i].2.1) ∈ (leads ks).take (findK (leads ks) key) := by
      rw [List.mem_take_iff_getElem]
      refine ⟨i, by rw [hlen]; omega, ?_⟩
      simp only [leads, List.getElem_map]
    exact take_lt hm
  have hf0 : findK (leads ks) key ≤ ks.length := by rw [← hlen]; exact findK_le _ _
  have hk0 : ∀ h0 : 0 < ks.length, ks[0].1 = lo := by
    intro h0
    cases ks with
    | nil => simp at h0
    | cons a ks => injection h1
  have hpos : 0 < ks.length := List.length_pos_iff.2 hne
  have cut : ∀ i, (hi : i < ks.length) → ks = ks.take i ++ ks[i] :: ks.drop (i + 1) := fun i hi => by
    rw [← List.drop_eq_getElem_cons hi, List.take_append_drop]
  have hnx : ∀ i, nextK (ks.drop i) hi = if h : i < ks.length then some ks[i].1 else hi := by
    intro i
    by_cases h : i < ks.length
    · rw [dif_pos h, List.drop_eq_getElem_cons h]; rfl
    · rw [dif_neg h, List.drop_eq_nil_of_le (by omega)]; rfl
  unfold belowN
  cases hh : isK (leads ks) key with
  | true =>
    have hi0 := isK_lt hh
    rw [hlen] at hi0
    obtain ⟨v, hv⟩ := isK_at hh
    have he : ks[findK (leads ks) key].1 = key := by
      rw [leads_at hi0] at hv
      injection hv with hv
      exact congrArg (·.1) hv
    refine ⟨_, _, _, cut _ hi0, by simp; omega, ?_⟩
    refine ⟨by rw [he]; exact fun h => h.irrefl, fun y hy => ?_⟩
    rw [hnx] at hy
    split at hy
    · rename_i h5
      injection hy with hy
      subst hy
      have h6 : ∀ (i i' : Nat) (h : i < ks.length) (h' : i' < ks.length), i < i' → Lt ks[i].1 ks[i'].1 := fun i i' h h' hii => by
        have := List.pairwise_iff_getElem.1 a2 i i' (by rw [hlen]; omega) (by rw [hlen]; omega) hii
        simpa [leads] using this
      have h7 := h6 _ _ hi0 h5 (by omega)
      rw [he] at h7
      exact h7
    · exact hk.2 y hy
  | false =>
    simp only [Bool.false_eq_true, if_false]
    have h0 : 0 < findK (leads ks) key := by
      rcases Nat.eq_zero_or_pos (findK (leads ks) key) with h | h
      · exfalso
        have h5 := hge 0 hpos (by omega)
        rw [hk0 hpos] at h5
        have e : lo = key := by
          rcases lt_or (a := lo) (b := key) with h6 | h6 | h6
          · exact absurd h6 h5
          · exact h6
          · exact absurd h6 hk.1
        have h7 : (leads ks)[findK (leads ks) key]? = some (ks[0].1, varB ks[0].2.1) := by
          rw [h]
          exact leads_at hpos
        have := isK_no hh h7
        exact this (by rw [hk0 hpos]; exact e)
      · exact h
    refine ⟨_, _, _, cut (findK (leads ks) key - 1) (by omega), by simp; omega, ?_⟩
    refine ⟨(hltt _ (by omega) (by omega)).not, fun y hy => ?_⟩
    rw [show findK (leads ks) key - 1 + 1 = findK (leads ks) key by omega, hnx] at hy
    split at hy
    · rename_i h5
      injection hy with hy
      subst hy
      have h6 := hge _ h5 (Nat.le_refl _)
      have h7 := leads_at h5
      have h8 := isK_no hh h7
      rcases lt_or (a := key) (b := ks[findK (leads ks) key].1) with h9 | h9 | h9
      · exact h9
      · exact absurd h9.symm h8
      · exact absurd h9 h6
    · exact hk.2 y hy
theorem childT_varB {i : Nat} (h0 : 0 < i) (h1 : i < 90) : childT (varB i) = (i : Int) := by
  have := getVarB_varB (x := i) (by unfold U64; omega) []
  rw [List.append_nil] at this
  unfold childT
  rw [this]
  simp only
  rw [if_neg (by omega)]
theorem At.down {Q : Prm} {T : (D : Nat) × Ct D} {key : Key} {j D : Nat} {cx : Cx (j + 1) D} {h : Nat} {t : Ct (j + 1)} (a : At Q T key cx h t) (hz : ∀ q ∈ Ct.subs (j + 1) t, 0 < q.1) :
    ∃ (l : List (Kid j)) (k : Key) (h' : Nat) (t' : Ct j) (r : List (Kid j)), t = (l ++ (k, (h', t')) :: r : List (Kid j)) ∧ belowN (leads (j := j) t) key = l.length ∧ At Q T key (Cx.step h l k r cx) h' t' := by
  obtain ⟨lo, hi, w1, w2, w3⟩ := a.wf
  obtain ⟨w4, w5⟩ := w2
  obtain ⟨l, ⟨k, h', t'⟩, r, e, e2, e3⟩ := below_at w4 w5 w3
  have hfl : FlL Q (l ++ (k, (h', t')) :: r) := by
    have := a.fl
    rw [e] at this
    exact this
  rw [FlL_app, FlL_cons] at hfl
  have hn := a.need
  refine ⟨l, k, h', t', r, e, e2, ?_, ⟨hz (h', Ct.page j t') ?_, a.root⟩, ?_, ⟨hfl.1, hfl.2.2, ?_, a.cfl⟩, ?_, ?_⟩
  · rw [a.whole, e]; rfl
  · rw [e]
    show _ ∈ subsL (l ++ (k, (h', t')) :: r)
    rw [subsL_app, subsL_cons]
    simp
  · rw [e] at w5
    rw [WfL_app] at w5
    refine ⟨k, nextK r hi, ⟨rfl, lo, hi, w1, rfl, ?_, w5.1, w5.2.2.1, w5.2.2.2⟩, w5.2.1, e3⟩
    rw [e, nextK_app] at w4
    exact w4
  · rw [e] at hn
    have : Ct.n (j + 1) (l ++ (k, (h', t')) :: r : List (Kid j)) = l.length + 1 + r.length := by
      show (l ++ (k, (h', t')) :: r).length = _
      rw [List.length_append, List.length_cons]; omega
    omega
  · exact ((Fl_iff Q j t').1 hfl.2.1).2
  · exact ((Fl_iff Q j t').1 hfl.2.1).1
/-- The pages at which such a tree stands. -/
theorem way_ok {Q : Prm} {T : (D : Nat) × Ct D} {key : Key} {pf : Int → Pag} : ∀ {j D : Nat} {cx : Cx j D} {h : Nat} {t : Ct j}, At Q T key cx h t → (∀ q ∈ (h, Ct.page j t) :: Ct.subs j t, pf (q.1 : Int) = q.2) → (∀ q ∈ Ct.subs j t, 0 < q.1 ∧ q.1 < 90) → (0 < j → 0 < Ct.n j t) →
    ∃ w n cs h' , ∃ cx' : Cx 0 D, wayF pf key (j + 1) (h : Int) = some w ∧ w.length = j + 1 ∧ w.reverse ++ cx.steps h = ⟨(h' : Int), 0, (true, n, cs)⟩ :: cx'.steps h' ∧ At Q T key cx' h' (show Ct 0 from (n, cs))
  | 0, D, cx, h, t, a, hp, hz, _ => by
    have e : pf (h : Int) = (true, t.1, t.2) := hp (h, Ct.page 0 t) (by simp)
    refine ⟨[⟨(h : Int), 0, (true, t.1, t.2)⟩], t.1, t.2, h, cx, ?_, rfl, rfl, a⟩
    rw [wayF, e, if_pos (.inl rfl)]
  | j + 1, D, cx, h, t, a, hp, hz, hn => by
    obtain ⟨l, k, h', t', r, e, e2, a'⟩ := a.down fun q hq => (hz q hq).1
    have e3 : pf (h : Int) = (false, 0, leads (j := j) t) := hp (h, Ct.page (j + 1) t) (by simp)
    have hsub : Ct.subs (j + 1) t = subsL l ++ ((h', Ct.page j t') :: Ct.subs j t' ++ subsL r) := by
      rw [e]
      show subsL (l ++ (k, (h', t')) :: r) = _
      rw [subsL_app, subsL_cons]
    have hz' : ∀ q ∈ (h', Ct.page j t') :: Ct.subs j t', 0 < q.1 ∧ q.1 < 90 := fun q hq => hz q (by rw [hsub]; simp only [List.mem_append]; exact .inr (.inl hq))
    have hfl := (Fl_iff Q j t').2 ⟨a'.need, a'.fl⟩
    have hlt : leads (j := j) t = leads l ++ (k, varB h') :: leads r := by rw [e, leads_app, leads_cons]
    have hne : ¬ (leads (j := j) t = []) := by rw [hlt]; simp
    have hc : childT (cellAt (leads (j := j) t) (belowN (leads (j := j) t) key)).2 = (h' : Int) := by
      rw [e2, hlt]
      unfold cellAt
      rw [List.getElem?_append_right (by rw [leads_len]; omega), leads_len, Nat.sub_self]
      exact childT_varB (hz' (h', Ct.page j t') (by simp)).1 (hz' (h', Ct.page j t') (by simp)).2
    by_cases hn0 : 0 < j ∧ ¬ 0 < Ct.n j t'
    · exfalso
      obtain ⟨j', rfl⟩ : ∃ j', j = j' + 1 := ⟨j - 1, by omega⟩
      obtain ⟨lo, hi, _, w2, _⟩ := a'.wf
      cases t' with
      | nil => cases w2.1
      | cons x y => exact hn0.2 (by simp [Ct.n])
    · obtain ⟨w, n, cs, h'', cx', i1, i2, i3, i4⟩ := way_ok a' (fun q hq => hp q (List.mem_cons_of_mem _ (by rw [hsub]; simp only [List.mem_append]; exact .inr (.inl hq)))) (fun q hq => hz' q (by simp [hq])) (fun h0 => by
        rcases Nat.eq_zero_or_pos (Ct.n j t') with h1 | h1
        · exact absurd ⟨h0, by omega⟩ hn0
        · exact h1)
      refine ⟨⟨(h : Int), l.length, stepPg l k h' r⟩ :: w, n, cs, h'', cx', ?_, by rw [List.length_cons, i2], ?_, i4⟩
      · rw [wayF, e3]
        simp only [Bool.false_eq_true, false_or]
        rw [if_neg hne, hc, i1, e2]
        simp only [Option.map_some]
        rw [hlt]
        rfl
      · rw [List.reverse_cons, List.append_assoc]
        exact i3
section
variable {Q : Prm} {P : Pgr} {c : Int → List UInt8} {D : Nat} {t : Ct D}
theorem Tree.zero (T : Tree Q P c D t) : ∀ q ∈ Ct.subs D t, 0 < q.1 ∧ q.1 < 90 := by
  intro q hq
  have h1 := T.rep.rep.nodup
  unfold allP at h1
  rw [List.map_cons, List.nodup_cons] at h1
  refine ⟨?_, T.rep.rep.lt q (by unfold allP; simp [hq])⟩
  rcases Nat.eq_zero_or_pos q.1 with h | h
  · exact absurd (List.mem_map.2 ⟨q, hq, h⟩) h1.1
  · exact h
theorem Tree.at0 (T : Tree Q P c D t) (key : Key) : At Q ⟨D, t⟩ key (Cx.top (D := D)) 0 t :=
  ⟨rfl, rfl, ⟨[], none, ⟨rfl, rfl⟩, T.wf, ⟨fun h => by cases key <;> simp [Lt, cmpB] at h, fun y hy => by cases hy⟩⟩, trivial, T.fl, T.root⟩
theorem Tree.way (T : Tree Q P c D t) (key : Key) : ∃ w n cs h, ∃ cx : Cx 0 D, wayF (P.pgD c) key (D + 1) 0 = some w ∧ w.length = D + 1 ∧ w.reverse = ⟨(h : Int), 0, (true, n, cs)⟩ :: cx.steps h ∧ At Q ⟨D, t⟩ key cx h (show Ct 0 from (n, cs)) := by
  obtain ⟨w, n, cs, h, cx, h1, h2, h3, h4⟩ := way_ok (pf := P.pgD c) (T.at0 key) (fun q hq => T.rep.pgD (p := q.2) hq) T.zero (fun h0 => by
    have := T.root
    obtain ⟨D', rfl⟩ : ∃ D', D = D' + 1 := ⟨D - 1, by omega⟩
    simp only [rootN] at this
    omega)
  refine ⟨w, n, cs, h, cx, h1, h2, ?_, h4⟩
  simpa [Cx.steps] using h3
theorem At.cells {key : Key} {cx : Cx 0 D} {h n : Nat} {cs : List Cel} (a : At Q ⟨D, t⟩ key cx h (show Ct 0 from (n, cs))) :
    Ct.cells D t = cx.cl ++ cs ++ cx.cr ∧ (∀ x ∈ cx.cl, Lt x.1 key) ∧ ∀ x ∈ cx.cr, Lt key x.1 := by
  have hw : t = cx.plug h (show Ct 0 from (n, cs)) := by
    have := a.whole
    exact eq_of_heq (Sigma.mk.inj this).2
  obtain ⟨lo, hi, w1, w2, w3⟩ := a.wf
  obtain ⟨s1, s2⟩ := Cx.WfC.sides cx w1 w3
  refine ⟨by rw [hw, plug_cells]; rfl, fun x hx => lt_trans_le (s1 x hx) w3.1, s2⟩
end
end Go.Proofs.YthbhkdhljlganaaGreatDoor

namespace Go.Proofs.YthbhkdhljlganaaGreatDoor
open Go
set_option linter.unusedVariables false

/-! ### Two pages as one -/
theorem Wf.first {j : Nat} {lo : Key} {hi : Option Key} {t : Ct (j + 1)} (w : Wf (j + 1) lo hi t) : ∃ k r, t = (k :: r : List (Kid j)) ∧ k.1 = lo := by
  cases t with
  | nil => cases w.1
  | cons k r => exact ⟨k, r, rfl, by have := w.1; injection this⟩
section
variable {Q : Prm} {P : Pgr} {c : Int → List UInt8} {j D : Nat} {h : Nat} {t : Ct j} {st : Pag}
end
end Go.Proofs.YthbhkdhljlganaaGreatDoor

namespace Go.Proofs.YthbhkdhljlganaaGreatDoor
open Go
set_option linter.unusedVariables false

section
variable {Q : Prm} {P : Pgr} {c : Int → List UInt8} {j D : Nat} {h : Nat} {t : Ct j} {st : Pag}
end
end Go.Proofs.YthbhkdhljlganaaGreatDoor

namespace Go.Proofs.YthbhkdhljlganaaGreatDoor
open Go
set_option linter.unusedVariables false

section
variable {Q : Prm} {c : Int → List UInt8}
end
end Go.Proofs.YthbhkdhljlganaaGreatDoor

namespace Go.Proofs.YthbhkdhljlganaaGreatDoor
open Go
set_option linter.unusedVariables false

/-- One more put, by its own way down. -/
noncomputable def putW (P : Pgr) (c : Int → List UInt8) (x : Cel) : Pgr × Nat := putT P ((wayF (P.pgD c) x.1 100 0).getD []) x
section
variable {Q : Prm} {c : Int → List UInt8}
end
end Go.Proofs.YthbhkdhljlganaaGreatDoor

namespace Go.Proofs.YthbhkdhljlganaaGreatDoor
open Go
set_option linter.unusedVariables false

end Go.Proofs.YthbhkdhljlganaaGreatDoor

namespace Go.Proofs.YthbhkdhljlganaaGreatDoor
open Go
set_option linter.unusedVariables false

/-- The leaves, with their pages. -/
def lvC : (j : Nat) → Nat → Ct j → List (Nat × Pag)
  | 0, i, t => [(i, Ct.page 0 t)]
  | j + 1, _, ks => List.flatMap (fun k : Kid j => lvC j k.2.1 k.2.2) ks
def lvCL {j : Nat} (ks : List (Kid j)) : List (Nat × Pag) := List.flatMap (fun k : Kid j => lvC j k.2.1 k.2.2) ks
def Cx.lcr : {j D : Nat} → Cx j D → List (Nat × Pag)
  | _, _, .top => []
  | _, _, .step _ _ _ r up => lvCL r ++ up.lcr
theorem lvC_facts : ∀ (j i : Nat) (t : Ct j), (lvC j i t).map (fun q => (q.1, q.2.2.1)) = Ct.lvs j i t ∧ (lvC j i t).flatMap (fun q => q.2.2.2) = Ct.cells j t ∧ (∀ q ∈ lvC j i t, q ∈ (i, Ct.page j t) :: Ct.subs j t) ∧ ∀ q ∈ lvC j i t, q.2.1 = true
  | 0, i, t => ⟨rfl, by simp [lvC, Ct.page, Ct.cells], fun q hq => by obtain rfl := List.mem_singleton.1 hq; simp, fun q hq => by obtain rfl := List.mem_singleton.1 hq; rfl⟩
  | j + 1, i, ks => by
    have ih := fun (k : Kid j) => lvC_facts j k.2.1 k.2.2
    refine ⟨?_, ?_, fun q hq => ?_, fun q hq => ?_⟩
    · show List.map _ (List.flatMap (fun k : Kid j => lvC j k.2.1 k.2.2) ks) = List.flatMap (fun k : Kid j => Ct.lvs j k.2.1 k.2.2) ks
      rw [List.map_flatMap]
      congr 1
      funext k
      exact (ih k).1
    · show List.flatMap _ (List.flatMap (fun k : Kid j => lvC j k.2.1 k.2.2) ks) = List.flatMap (fun k : Kid j => Ct.cells j k.2.2) ks
      rw [List.flatMap_assoc]
      congr 1
      funext k
      exact (ih k).2.1
    · obtain ⟨k, hk, hq⟩ := List.mem_flatMap.1 (show q ∈ List.flatMap (fun k : Kid j => lvC j k.2.1 k.2.2) ks from hq)
      exact List.mem_cons_of_mem _ (List.mem_flatMap.2 ⟨k, hk, (ih k).2.2.1 q hq⟩)
    · obtain ⟨k, hk, hq⟩ := List.mem_flatMap.1 (show q ∈ List.flatMap (fun k : Kid j => lvC j k.2.1 k.2.2) ks from hq)
      exact (ih k).2.2.2 q hq
theorem lvCL_facts {j : Nat} (ks : List (Kid j)) : (lvCL ks).map (fun q => (q.1, q.2.2.1)) = lvsL ks ∧ (lvCL ks).flatMap (fun q => q.2.2.2) = cellsL ks ∧ (∀ q ∈ lvCL ks, q ∈ subsL ks) ∧ ∀ q ∈ lvCL ks, q.2.1 = true := by
  have h := lvC_facts (j + 1) 0 ks
  refine ⟨h.1, h.2.1, fun q hq => ?_, h.2.2.2⟩
  obtain ⟨k, hk, hq⟩ := List.mem_flatMap.1 (show q ∈ List.flatMap (fun k : Kid j => lvC j k.2.1 k.2.2) ks from hq)
  exact List.mem_flatMap.2 ⟨k, hk, (lvC_facts j k.2.1 k.2.2).2.2.1 q hq⟩
theorem lcr_facts : ∀ {j D : Nat} (cx : Cx j D) (h : Nat), cx.lcr.map (fun q => (q.1, q.2.2.1)) = cx.lr ∧ cx.lcr.flatMap (fun q => q.2.2.2) = cx.cr ∧ (∀ q ∈ cx.lcr, q ∈ cx.pgs h) ∧ ∀ q ∈ cx.lcr, q.2.1 = true
  | _, _, .top, h => ⟨rfl, rfl, fun q hq => (by cases hq), fun q hq => by cases hq⟩
  | _, _, .step id l k r up, h => by
    obtain ⟨a1, a2, a3, a4⟩ := lcr_facts up id
    obtain ⟨b1, b2, b3, b4⟩ := lvCL_facts r
    refine ⟨?_, ?_, fun q hq => ?_, fun q hq => ?_⟩
    · rw [Cx.lcr, Cx.lr, List.map_append, a1, b1]
    · rw [Cx.lcr, Cx.cr, List.flatMap_append, a2, b2]
    · rw [pgs_step]
      simp only [List.mem_append]
      rcases List.mem_append.1 hq with hq | hq
      · exact .inl (.inr (.inr (b3 q hq)))
      · exact .inr (a3 q hq)
    · rcases List.mem_append.1 hq with hq | hq
      · exact b4 q hq
      · exact a4 q hq
/-- Along the leaves. -/
theorem chain_ok {pf : Int → Pag} : ∀ (l : List (Nat × Pag)) (n : Nat) (cs : List Cel) (m : Nat), l.length < m → (∀ q ∈ l, pf (q.1 : Int) = q.2 ∧ 0 < q.1) → ChTo (l.map fun q => (q.1, q.2.2.1)) 0 → n = headI (l.map fun q => (q.1, q.2.2.1)) 0 →
    chainF pf m (true, n, cs) = some (cs ++ l.flatMap fun q => q.2.2.2)
  | _, _, _, 0, hm, _, _, _ => by omega
  | [], n, cs, m + 1, hm, hp, hc, hn => by
    have : n = 0 := hn
    rw [chainF, if_pos this]
    simp
  | (i, x) :: l, n, cs, m + 1, hm, hp, hc, hn => by
    have hn : n = i := hn
    subst hn
    have h1 := hp (n, x) (by simp)
    rw [chainF, if_neg (by have := h1.2; simp only at this ⊢; omega)]
    have e : pf (((true, n, cs) : Pag).2.1 : Int) = x := h1.1
    rw [e]
    obtain ⟨b, n', cs'⟩ := x
    have ih := chain_ok l n' cs' m (by simp at hm; omega) (fun q hq => hp q (by simp [hq])) hc.2 hc.1
    have e2 : chainF pf m (b, n', cs') = chainF pf m (true, n', cs') := by cases m <;> rfl
    rw [e2, ih]
    simp
section
variable {Q : Prm} {P : Pgr} {c : Int → List UInt8} {D : Nat} {t : Ct D}
theorem eq_plug {key : Key} {cx : Cx 0 D} {h n : Nat} {cs : List Cel} (a : At Q ⟨D, t⟩ key cx h (show Ct 0 from (n, cs))) : t = cx.plug h (show Ct 0 from (n, cs)) := eq_of_heq (Sigma.mk.inj a.whole).2
theorem At.perm {key : Key} {cx : Cx 0 D} {h n : Nat} {cs : List Cel} (a : At Q ⟨D, t⟩ key cx h (show Ct 0 from (n, cs))) : (allP D t).Perm (cx.pgs h ++ [(h, ((true, n, cs) : Pag))]) := by
  have hp := plug_pgs cx h (show Ct 0 from (n, cs)) a.root
  rw [← eq_plug a] at hp
  exact hp
theorem Tree.chain (T : Tree Q P c D t) {key : Key} {cx : Cx 0 D} {h n : Nat} {cs : List Cel} (a : At Q ⟨D, t⟩ key cx h (show Ct 0 from (n, cs))) : chainF (P.pgD c) 91 (true, n, cs) = some (cs ++ cx.cr) := by
  have hp := a.perm
  obtain ⟨l1, l2, l3, l4⟩ := lcr_facts cx h
  have hch := T.ch
  rw [eq_plug a, plug_lvs cx h _ a.root] at hch
  rw [List.append_assoc, ChTo_app] at hch
  obtain ⟨_, h1, h2⟩ := hch
  rw [← l2]
  have hz : ∀ q ∈ cx.lcr, 0 < q.1 := fun q hq => by
    have h5 := l3 q hq
    -- a leaf to the right of another one is not the root
    rcases Nat.eq_zero_or_pos q.1 with h6 | h6
    · exfalso
      have h7 : q ∈ allP D t := hp.mem_iff.2 (List.mem_append_left _ h5)
      rcases List.mem_cons.1 h7 with h8 | h8
      · have h9 := l4 q hq
        rw [h8] at h9
        cases D with
        | zero =>
          cases cx with
          | top => cases hq
          | step id l k r up => have := up.depth; omega
        | succ D => cases h9
      · have := (T.zero q h8).1
        omega
    · exact h6
  refine chain_ok cx.lcr n cs 91 ?_ (fun q hq => ⟨T.rep.pgD (p := q.2) (hp.mem_iff.2 (List.mem_append_left _ (l3 q hq))), hz q hq⟩) (by rw [l1]; exact h2) (by rw [l1]; exact h1)
  -- as many as there are pages at most
  have hle : ∀ {j D : Nat} (cx : Cx j D) (h : Nat), cx.lcr.length ≤ (cx.pgs h).length := by
    have hl1 : ∀ (j i : Nat) (t : Ct j), (lvC j i t).length ≤ 1 + (Ct.subs j t).length := by
      intro j
      induction j with
      | zero => intro i t; simp [lvC]
      | succ j ih =>
        intro i ks
        have : ∀ l : List (Kid j), (lvCL l).length ≤ (subsL l).length := fun l => by
          induction l with
          | nil => simp [lvCL]
          | cons k l il =>
            have e1 : lvCL (k :: l) = lvC j k.2.1 k.2.2 ++ lvCL l := by simp [lvCL]
            rw [e1, subsL_cons, List.length_append, List.length_append, List.length_cons]
            have := ih k.2.1 k.2.2
            omega
        have := this ks
        show (lvCL ks).length ≤ 1 + (subsL ks).length
        omega
    have hl2 : ∀ {j : Nat} (l : List (Kid j)), (lvCL l).length ≤ (subsL l).length := fun {j} l => by
      induction l with
      | nil => simp [lvCL]
      | cons k l il =>
        have e1 : lvCL (k :: l) = lvC j k.2.1 k.2.2 ++ lvCL l := by simp [lvCL]
        rw [e1, subsL_cons, List.length_append, List.length_append, List.length_cons]
        have := hl1 j k.2.1 k.2.2
        omega
    intro j D cx
    induction cx with
    | top => intro h; exact Nat.zero_le _
    | step id l k r up ih =>
      intro h
      have h1 := ih id
      have h2 := hl2 r
      rw [pgs_step, Cx.lcr]
      simp only [List.length_append, List.length_cons, List.length_nil]
      omega
  have h1 := hle cx h
  have h2 := T.rep.le90
  have h3 := hp.length_eq
  rw [List.length_append] at h3
  simp only [List.length_cons, List.length_nil] at h3
  omega
end

/-! ### Ranges of rising cells -/
def limL (l : List Cel) (lim : Int) : List Cel := if lim < 0 then l else l.take lim.toNat
end Go.Proofs.YthbhkdhljlganaaGreatDoor
