/- code.Reader: Read, fail, take, below, Count, End: what they return. -/
import Derived.Test.YtpmndmgfoiagnaaDoorCodA
import Derived.Test.YtpmndmgfoiagnaaDoorNumB
import Derived.Test.YtpmndmgfoiagnaaDoorUb
namespace Go.Proofs.YtpmndmgfoiagnaaDoor
open Go Go.RowKit
set_option linter.unusedVariables false

/-- A reader: what hasn't been taken yet, what went wrong first. -/
def Rd (w : World) (g B : Nat) (l : List UInt8) (err : Nat) : Prop := ∃ A k c, Blk w g 142 #[.slice A k c, .int .i64 (err : Int)] ∧ Ub w B (.slice A k c) l
theorem Rd.later {w w' : World} {g B : Nat} {l : List UInt8} {err : Nat} (h : Rd w g B l err) (hb : Below w.heap.size w w') : Rd w' g B l err := by
  obtain ⟨A, k, c, h1, h2⟩ := h
  exact ⟨A, k, c, h1.later hb, h2.later hb⟩
theorem Rd.lower {w : World} {g B B' : Nat} {l : List UInt8} {err : Nat} (h : Rd w g B l err) (hB : B' ≤ B) : Rd w g B' l err := by
  obtain ⟨A, k, c, h1, h2⟩ := h
  exact ⟨A, k, c, h1, h2.lower hB⟩
theorem Rd.lt {w : World} {g B : Nat} {l : List UInt8} {err : Nat} (h : Rd w g B l err) : g < w.heap.size := by
  obtain ⟨A, k, c, h1, h2⟩ := h
  exact h1.lt
/-- A block of another type is written. -/
theorem Rd.far {w : World} {g B : Nat} {l : List UInt8} {err : Nat} (h : Rd w g B l err) {g' : Nat} {t : TypeId} {cs : Array Value} (hb : Blk w g' t cs) (h1 : t ≠ 142) (h2 : 5 ≠ t) (i : Nat) (u : Value) : Rd (w.setCell ⟨g', i, none⟩ u) g B l err := by
  obtain ⟨A, k, c, h3, h4⟩ := h
  exact ⟨A, k, c, h3.far (p := ⟨g', i, none⟩) (fun e => Blk.ne h3 hb (fun h => h1 h.symm) e) _, h4.beside hb h2 (grown_put _ _ _ _)⟩

set_option maxHeartbeats 1000000 in
theorem read_any (S : Nat → Prop) (v0 : Value) (l : List UInt8) (w : World) (hl : l.length ≤ 1099511627776) (hr : Bs S w v0 l) :
    Calls Tryd.prog 57 #[v0] w fun e w' => ∃ g, e = .returned (.pointer (some ⟨g, 0, none⟩)) ∧ w.heap.size ≤ g ∧ Rd w' g w.heap.size l 0 ∧ Below w.heap.size w w' := by
  have HR := Lib.hid hr
  obtain ⟨A, c, rfl, hlc, hcm, hA0, hA⟩ := hr.at
  clear hA hr hA0
  go_enter Tryd.func57, Tryd.ntmps57
  go_wp2_with (at_builtin; (refine wpList_append_bs _ rfl (.tmp 3) (.tmp 4) elemU8 rfl (Ob.made _ _ w.heap.size (Nat.le_refl _) (by simp)) (Sl.alloc1 HR.out _) rfl rfl (by simp; omega) (by simp) ?_); intro A1 k1 c1 w1 hown1 hg1 hat1)
  have hbl1 : Below w.heap.size w w1 := below_grown_own ((Below.refl _ _).alloc (Nat.le_refl _) _) (Ob.made _ _ w.heap.size (Nat.le_refl _) (by simp)) hg1 (by simp)
  have hs1 := hbl1.size
  go_ret
  refine ⟨w1.heap.size, rfl, hs1, ⟨A1, k1, c1, Blk.new _ _ _, ?_⟩, hbl1.alloc hs1 _⟩
  exact (Ub.of_own (by simpa using hown1)).later ((Below.refl _ _).alloc (Nat.le_refl _) _)

set_option maxHeartbeats 400000 in
theorem fail_any (g B : Nat) (l : List UInt8) (err e0 : Nat) (w : World) (hr : Rd w g B l err) (he : e0 ≤ 1000) (he2 : err ≤ 1000) :
    Calls Tryd.prog 73 #[.pointer (some ⟨g, 0, none⟩), .int .i64 e0] w fun e w' => e = .returned (.bool false) ∧ Rd w' g B l (if err = 0 then e0 else err) ∧ w.grownBy w' (some g) := by
  have HR := Lib.hid hr
  obtain ⟨A, k, c, hb, hown⟩ := hr
  have d1 : w.cell? ⟨g, 1, none⟩ = some (.int .i64 (err : Int)) := hb.cell 1
  have f1 := hb.free 1
  by_cases h0 : err = 0
  · subst h0
    go_enter Tryd.func73, Tryd.ntmps73
    go_wp2_with fail
    go_ret
    exact ⟨rfl, ⟨A, k, c, hb.put 1 _, hown.beside hb (by decide) (grown_put _ _ _ _)⟩, grown_put _ _ _ _⟩
  · have t0 : ((err : Int) == 0) = false := by rw [beq_eq_false_iff_ne]; omega
    go_enter Tryd.func73, Tryd.ntmps73
    go_wp2_with fail
    go_ret
    exact ⟨rfl, HR.out, World.grownBy.refl _ _⟩

def rdErr (e : Nat) : Nat := if e = 10 then 30 else e
theorem getV_errs : ∀ (l : List UInt8) (i v er : Nat), getV i v l = .error er → er = 10 ∨ er = 12
  | [], i, v, er, h => by rw [getV] at h; cases h; exact .inl rfl
  | b :: l, i, v, er, h => by
    rw [getV] at h
    split at h
    · cases h; exact .inr rfl
    · split at h
      · cases h
      · exact getV_errs l _ _ er h
set_option maxHeartbeats 1000000 in
set_option maxRecDepth 100000 in
theorem rtake_old (g B : Nat) (l : List UInt8) (err : Nat) (w : World) (hr : Rd w g B l err) (h0 : err ≠ 0) :
    Calls Tryd.prog 71 #[.pointer (some ⟨g, 0, none⟩)] w fun e w' => e = .returned (.tuple #[.int .u64 0, .slice none 0 0, .bool false]) ∧ w = w' := by
  obtain ⟨A, k, c, hb, hown⟩ := hr
  have d1 : w.cell? ⟨g, 1, none⟩ = some (.int .i64 (err : Int)) := hb.cell 1
  have t0 : ((err : Int) != 0) = true := by rw [bne_iff_ne]; omega
  clear hb hown
  go_enter Tryd.func71, Tryd.ntmps71
  go_wp2_with fail
  go_ret3
  exact ⟨rfl, rfl⟩
set_option maxHeartbeats 1000000 in
set_option maxRecDepth 100000 in
theorem rtake_ok (g B : Nat) (l : List UInt8) (x n : Nat) (w : World) (hr : Rd w g B l 0) (hl : l.length ≤ 1099511627776) (hg : getVarB l = .ok (x, n)) :
    Calls Tryd.prog 71 #[.pointer (some ⟨g, 0, none⟩)] w fun e w' => ∃ A k c, e = .returned (.tuple #[.int .u64 x, .slice A k c, .bool true]) ∧ Ob 5 w' w.heap.size (.slice A k c) (l.drop n) ∧ Below w.heap.size w w' := by
  obtain ⟨A, k, c, hb, hown⟩ := hr
  have d0 : w.cell? ⟨g, 0, none⟩ = some (.slice A k c) := hb.cell 0
  have d1 : w.cell? ⟨g, 1, none⟩ = some (.int .i64 0) := hb.cell 1
  have HO := Lib.hid hown
  clear hb hown
  go_enter Tryd.func71, Tryd.ntmps71
  go_wp2_with fail
  refine (getVar_any _ _ l w hl HO.out.bs).mono ?_
  rintro e w1 ⟨hok, _⟩
  obtain ⟨A1, k1, c1, rfl, hown1, hbl1⟩ := hok x n hg
  clear hok
  go_wp2_with fail
  go_ret3
  exact ⟨A1, k1, c1, rfl, hown1, hbl1⟩
set_option maxHeartbeats 1000000 in
set_option maxRecDepth 100000 in
theorem rtake_err (g B : Nat) (l : List UInt8) (er : Nat) (w : World) (hr : Rd w g B l 0) (hl : l.length ≤ 1099511627776) (hg : getVarB l = .error er) :
    Calls Tryd.prog 71 #[.pointer (some ⟨g, 0, none⟩)] w fun e w' => e = .returned (.tuple #[.int .u64 0, .slice none 0 0, .bool false]) ∧ Rd w' g B l (rdErr er) ∧ w.grownBy w' (some g) := by
  have HR := Lib.hid hr
  obtain ⟨A, k, c, hb, hown⟩ := hr
  have d0 : w.cell? ⟨g, 0, none⟩ = some (.slice A k c) := hb.cell 0
  have d1 : w.cell? ⟨g, 1, none⟩ = some (.int .i64 0) := hb.cell 1
  have HO := Lib.hid hown
  have hcase := getV_errs l 0 0 er hg
  clear hb hown
  rcases hcase with rfl | rfl
  · go_enter Tryd.func71, Tryd.ntmps71
    go_wp2_with fail
    refine (getVar_any _ _ l w hl HO.out.bs).mono ?_
    rintro e w1 ⟨_, herr⟩
    obtain ⟨rfl, hbl1⟩ := herr _ hg
    have HR1 := Lib.hid (HR.out.later hbl1)
    clear herr
    go_wp2_with fail
    refine (fail_any g B l 0 30 w1 HR1.out (by omega) (by omega)).mono ?_
    rintro e w2 ⟨rfl, hr2, hg2⟩
    go_wp2_with fail
    go_ret3
    exact ⟨rfl, hr2, (below_grownBy hbl1 _).trans hg2⟩
  · go_enter Tryd.func71, Tryd.ntmps71
    go_wp2_with fail
    refine (getVar_any _ _ l w hl HO.out.bs).mono ?_
    rintro e w1 ⟨_, herr⟩
    obtain ⟨rfl, hbl1⟩ := herr _ hg
    have HR1 := Lib.hid (HR.out.later hbl1)
    clear herr
    go_wp2_with fail
    refine (fail_any g B l 0 12 w1 HR1.out (by omega) (by omega)).mono ?_
    rintro e w2 ⟨rfl, hr2, hg2⟩
    go_wp2_with fail
    go_ret3
    exact ⟨rfl, hr2, (below_grownBy hbl1 _).trans hg2⟩

/-- What Count takes: the number, the rest, what went wrong. -/
def rdCount (l : List UInt8) (err : Nat) (most : Int) : Nat × List UInt8 × Nat :=
  if err ≠ 0 then (0, l, err) else match getVarB l with
    | .error er => (0, l, rdErr er)
    | .ok (x, n) => if most < (x : Int) then (0, l, 32) else (x, l.drop n, 0)
theorem rdErr_le {l : List UInt8} {er : Nat} (h : getVarB l = .error er) : rdErr er ≤ 1000 ∧ rdErr er ≠ 0 := by
  rcases getV_errs l 0 0 er h with rfl | rfl <;> decide

/-- The function value 'r.take'. -/
def takeFn (g : Nat) : Value := .func (Fn.func 71) #[.pointer (some ⟨g, 0, none⟩)] #[]
set_option maxHeartbeats 1000000 in
set_option maxRecDepth 100000 in
theorem below_ok (g B : Nat) (l : List UInt8) (x n : Nat) (most : Int) (w : World) (hr : Rd w g B l 0) (hl : l.length ≤ 1099511627776) (hg : getVarB l = .ok (x, n)) (hm : most ≤ 9223372036854775807) (hx : (x : Int) ≤ most) :
    Calls Tryd.prog 72 #[.pointer (some ⟨g, 0, none⟩), takeFn g, .int .i64 most] w fun e w' => ∃ A k c, e = .returned (.tuple #[.int .i64 x, .slice A k c, .bool true]) ∧ Ob 5 w' w.heap.size (.slice A k c) (l.drop n) ∧ Below w.heap.size w w' := by
  obtain ⟨m, rfl⟩ : ∃ m : Nat, most = (m : Int) := ⟨most.toNat, by omega⟩
  have hxm : x ≤ m := by omega
  unfold takeFn
  have HT := Lib.hid (rtake_ok g B l x n w hr hl hg)
  clear hr hg
  go_enter Tryd.func72, Tryd.ntmps72
  go_wp2_with fail
  refine HT.out.mono ?_
  rintro e w1 ⟨A1, k1, c1, rfl, hown1, hbl1⟩
  have t0 : decide (m < x) = false := by rw [decide_eq_false_iff_not]; omega
  go_wp2_with fail
  go_ret3
  exact ⟨A1, k1, c1, rfl, hown1, hbl1⟩
set_option maxHeartbeats 1000000 in
set_option maxRecDepth 100000 in
theorem below_big (g B : Nat) (l : List UInt8) (x n : Nat) (most : Int) (w : World) (hr : Rd w g B l 0) (hl : l.length ≤ 1099511627776) (hg : getVarB l = .ok (x, n)) (hm : most ≤ 9223372036854775807) (hm2 : -9223372036854775808 ≤ most) (hx : most < (x : Int)) :
    Calls Tryd.prog 72 #[.pointer (some ⟨g, 0, none⟩), takeFn g, .int .i64 most] w fun e w' => e = .returned (.tuple #[.int .i64 0, .slice none 0 0, .bool false]) ∧ Rd w' g B l 32 ∧ w.grownBy w' (some g) := by
  unfold takeFn
  have HT := Lib.hid (rtake_ok g B l x n w hr hl hg)
  have HR := Lib.hid hr
  have hx64 := (getVarB_bound hg).1
  clear hr hg
  by_cases h0 : most < 0
  · go_enter Tryd.func72, Tryd.ntmps72
    go_wp2_with fail
    refine HT.out.mono ?_
    rintro e w1 ⟨A1, k1, c1, rfl, hown1, hbl1⟩
    have HR1 := Lib.hid (HR.out.later hbl1)
    go_wp2_with fail
    refine (fail_any g B l 0 32 w1 HR1.out (by omega) (by omega)).mono ?_
    rintro e w2 ⟨rfl, hr2, hg2⟩
    go_wp2_with fail
    go_ret3
    exact ⟨rfl, hr2, (below_grownBy hbl1 _).trans hg2⟩
  · obtain ⟨m, rfl⟩ : ∃ m : Nat, most = (m : Int) := ⟨most.toNat, by omega⟩
    have hxm : m < x := by omega
    go_enter Tryd.func72, Tryd.ntmps72
    go_wp2_with fail
    refine HT.out.mono ?_
    rintro e w1 ⟨A1, k1, c1, rfl, hown1, hbl1⟩
    have t0 : decide (m < x) = true := by rw [decide_eq_true_eq]; omega
    have HR1 := Lib.hid (HR.out.later hbl1)
    go_wp2_with fail
    refine (fail_any g B l 0 32 w1 HR1.out (by omega) (by omega)).mono ?_
    rintro e w2 ⟨rfl, hr2, hg2⟩
    go_wp2_with fail
    go_ret3
    exact ⟨rfl, hr2, (below_grownBy hbl1 _).trans hg2⟩
set_option maxHeartbeats 1000000 in
set_option maxRecDepth 100000 in
theorem below_no (g B : Nat) (l : List UInt8) (most : Int) (w : World) (err err' : Nat)
    (ht : Calls Tryd.prog 71 #[.pointer (some ⟨g, 0, none⟩)] w fun e w' => e = .returned (.tuple #[.int .u64 0, .slice none 0 0, .bool false]) ∧ Rd w' g B l err' ∧ w.grownBy w' (some g)) :
    Calls Tryd.prog 72 #[.pointer (some ⟨g, 0, none⟩), takeFn g, .int .i64 most] w fun e w' => e = .returned (.tuple #[.int .i64 0, .slice none 0 0, .bool false]) ∧ Rd w' g B l err' ∧ w.grownBy w' (some g) := by
  unfold takeFn
  have HT := Lib.hid ht
  clear ht
  go_enter Tryd.func72, Tryd.ntmps72
  go_wp2_with fail
  refine HT.out.mono ?_
  rintro e w1 ⟨rfl, hr1, hg1⟩
  go_wp2_with fail
  go_ret3
  exact ⟨rfl, hr1, hg1⟩

/-- What End says. -/
def rdEnd (l : List UInt8) (err : Nat) : Nat := if err = 0 ∧ 0 < l.length then 31 else err
set_option maxHeartbeats 400000 in
theorem end_rd (g B : Nat) (l : List UInt8) (err : Nat) (w : World) (hr : Rd w g B l err) (hl : l.length ≤ 1099511627776) :
    Calls Tryd.prog 60 #[.pointer (some ⟨g, 0, none⟩)] w fun e w' => e = .returned (.int .i64 (rdEnd l err : Int)) ∧ w = w' := by
  obtain ⟨A, k, c, hb, hown⟩ := hr
  have d0 : w.cell? ⟨g, 0, none⟩ = some (.slice A k c) := hb.cell 0
  have d1 : w.cell? ⟨g, 1, none⟩ = some (.int .i64 (err : Int)) := hb.cell 1
  obtain rfl := hown.len
  clear hb hown
  by_cases h0 : err = 0
  · subst h0
    by_cases hz : 0 < l.length
    · have HE : Hid (rdEnd l 0 = 31) := by unfold rdEnd; rw [if_pos ⟨rfl, hz⟩]; rfl
      go_enter Tryd.func60, Tryd.ntmps60
      go_wp2_with fail
      go_ret
      rw [HE.out]
      exact ⟨rfl, rfl⟩
    · have HE : Hid (rdEnd l 0 = 0) := by unfold rdEnd; rw [if_neg (fun h => hz h.2)]; rfl
      go_enter Tryd.func60, Tryd.ntmps60
      go_wp2_with fail
      go_ret
      rw [HE.out]
      exact ⟨rfl, rfl⟩
  · have HE : Hid (rdEnd l err = err) := by unfold rdEnd; rw [if_neg (fun h => h0 h.1)]; rfl
    have t0 : ((err : Int) == 0) = false := by rw [beq_eq_false_iff_ne]; omega
    clear h0
    go_enter Tryd.func60, Tryd.ntmps60
    go_wp2_with fail
    go_ret
    rw [HE.out]
    exact ⟨rfl, rfl⟩
end Go.Proofs.YtpmndmgfoiagnaaDoor
