/- code.Writer: Write, Num, Bytes: what they return. -/
import Derived.Test.YtpmndmgfoiagnaaDoorNumA
import Derived.Test.YtpmndmgfoiagnaaDoorCut
import Derived.Test.YtpmndmgfoiagnaaDoorTy
import Derived.Maps.AppendAt
import Derived.RegionTactic
namespace Go.Proofs.YtpmndmgfoiagnaaDoor
open Go Go.RowKit
set_option linter.unusedVariables false

theorem below_grownBy {w w' : World} (h : Below w.heap.size w w') (row : Option Nat) : w.grownBy w' row := ⟨h.os, h.tape, h.output, h.size, fun k hk _ => h.block k hk⟩
theorem grown_put (w : World) (g i : Nat) (u : Value) : w.grownBy (w.setCell ⟨g, i, none⟩ u) (some g) :=
  ⟨rfl, rfl, rfl, by simp, fun k _ hk => heap_setCell_other w ⟨g, i, none⟩ k u (fun e => hk (by simp [e]))⟩
theorem grown_below {w w' : World} {g B : Nat} (h : w.grownBy w' (some g)) (hg : B ≤ g) (hB : B ≤ w.heap.size) : Below B w w' := (Below.refl _ _).grown h hB (fun k hk => by cases hk; exact hg)

/-- A writer without a fault: its bytes lie in blocks from B on. -/
def Wr (w : World) (g B : Nat) (l : List UInt8) : Prop := ∃ A k c, Blk w g 149 #[.slice A k c, .int .i64 0] ∧ Ob 5 w B (.slice A k c) l
theorem Wr.later {w w' : World} {g B : Nat} {l : List UInt8} (h : Wr w g B l) (hb : Below w.heap.size w w') : Wr w' g B l := by
  obtain ⟨A, k, c, h1, h2⟩ := h
  exact ⟨A, k, c, h1.later hb, h2.later hb⟩
theorem Wr.lower {w : World} {g B B' : Nat} {l : List UInt8} (h : Wr w g B l) (hB : B' ≤ B) : Wr w g B' l := by
  obtain ⟨A, k, c, h1, h2⟩ := h
  exact ⟨A, k, c, h1, h2.lower hB⟩
theorem Wr.alloc {w : World} {g B : Nat} {l : List UInt8} (h : Wr w g B l) (o : Obj) : Wr (w.alloc o) g B l := h.later ((Below.refl _ _).alloc (Nat.le_refl _) _)
/-- A block of another type is written. -/
theorem Wr.far {w : World} {g B : Nat} {l : List UInt8} (h : Wr w g B l) {g' : Nat} {t : TypeId} {cs : Array Value} (hb : Blk w g' t cs) (h1 : t ≠ 149) (h2 : 5 ≠ t) (i : Nat) (u : Value) : Wr (w.setCell ⟨g', i, none⟩ u) g B l := by
  obtain ⟨A, k, c, h3, h4⟩ := h
  exact ⟨A, k, c, h3.far (p := ⟨g', i, none⟩) (fun e => Blk.ne h3 hb (fun h => h1 h.symm) e) _, own_set h4 hb h2 i u⟩

set_option maxHeartbeats 400000 in
theorem write_any (w : World) :
    Calls Tryd.prog 62 #[] w fun e w' => e = .returned (.pointer (some ⟨w.heap.size, 0, none⟩)) ∧ Wr w' w.heap.size w.heap.size [] ∧ Below w.heap.size w w' ∧ w'.heap.size = w.heap.size + 1 := by
  go_enter Tryd.func62, Tryd.ntmps62
  go_wp2_with fail
  go_ret
  exact ⟨rfl, ⟨none, 0, 0, Blk.new _ _ _, Ob.nil _ _ _⟩, (Below.refl _ _).alloc (Nat.le_refl _) _, by simp⟩

def nums (xs : List Nat) : List Value := xs.map fun (x : Nat) => .int .u64 (x : Int)
theorem nums_at {xs : List Nat} {j : Nat} (h : j < xs.length) : (nums xs)[j]? = some (.int .u64 (xs[j] : Int)) := by simp [nums, List.getElem?_eq_getElem h]
theorem vars_len (xs : List Nat) (h : ∀ x ∈ xs, x < U64) : (xs.flatMap varB).length ≤ 10 * xs.length := by
  induction xs with
  | nil => simp
  | cons x xs ih =>
    have h1 := varB_le10 (h x (by simp))
    have h2 := ih (fun y hy => h y (by simp [hy]))
    rw [List.flatMap_cons, List.length_append, List.length_cons]
    omega
theorem vars_take_succ {xs : List Nat} {i : Nat} (h : i < xs.length) : (xs.take (i + 1)).flatMap varB = (xs.take i).flatMap varB ++ varB xs[i] := by
  rw [List.take_succ_eq_append_getElem h, List.flatMap_append]; simp

set_option maxHeartbeats 1000000 in
set_option maxRecDepth 100000 in
/-- The bytes that a number more gives lie in a new block. -/
theorem wnum_new (g B B' : Nat) (l : List UInt8) (xs : List Nat) (v0 : Value) (w : World) (hw : Wr w g B l) (hB : B ≤ w.heap.size) (hB' : xs.length = 0 → B' ≤ B) (hB2 : B' ≤ w.heap.size) (hx : ∀ x ∈ xs, x < U64) (hl : l.length + 10 * xs.length ≤ 1099511627776)
    (hv : Sl (fun b => b ≠ g ∧ b < w.heap.size) w 1 v0 xs.length (nums xs)) :
    Calls Tryd.prog 63 #[.pointer (some ⟨g, 0, none⟩), v0] w fun e w' => e = .returned (.tuple #[]) ∧ Wr w' g B' (l ++ xs.flatMap varB) ∧ w.grownBy w' (some g) := by
  have HV := Lib.hid hv
  obtain ⟨_, A0, c0, rfl, hnc, hcm, hA0, hA⟩ := hv
  have HA := Lib.hid hA
  have hml : xs.length ≤ 109951162777 := by omega
  have HX := Lib.hid hx
  have R0 : Wr w g (if 0 < 0 then w.heap.size else B) (l ++ (xs.take 0).flatMap varB) ∧ w.grownBy w (some g) := ⟨by simpa using hw, World.grownBy.refl _ _⟩
  clear hA hx hw
  go_enter Tryd.func63, Tryd.ntmps63
  go_wp2_with fail
  go_loopw [5, 8] (fun _ iv wr => ∃ i : Nat, iv = .int .i64 (i : Int) ∧ i ≤ xs.length ∧ Wr wr g (if 0 < i then w.heap.size else B) (l ++ (xs.take i).flatMap varB) ∧ w.grownBy wr (some g)) (fun _ iv _ => xs.length - (intOf iv).toNat)
  case atStart => exact ⟨0, rfl, by omega, R0⟩
  case round =>
    obtain ⟨i, rfl, hi, hwr, hgr⟩ := hrel
    clear R0
    have hsz := hgr.size
    by_cases hil : i < xs.length
    · obtain ⟨b, o, rfl, ⟨hbg, hbl⟩, hcell⟩ := HA.out (by omega)
      have hcw := hcell i _ (nums_at hil)
      have hc : wr.cell? ⟨b, o + i, none⟩ = some (.int .u64 (xs[i] : Int)) := by
        rw [World.cell?_of_block (hgr.block b hbl (by simpa using hbg))]
        exact hcw
      have hx := HX.out _ (List.getElem_mem hil)
      have hlen : (l ++ (xs.take i).flatMap varB).length ≤ l.length + 10 * i := by
        have h1 := vars_len (xs.take i) (fun x hx => HX.out x (List.mem_of_mem_take hx))
        rw [List.length_take] at h1
        rw [List.length_append]
        omega
      have hvx := varB_le10 hx
      have HS := Lib.hid (vars_take_succ hil)
      have hsz' : (if 0 < i + 1 then w.heap.size else B) ≤ wr.heap.size := by rw [if_pos (by omega)]; exact hsz
      have HSZ := Lib.hid hsz'
      obtain ⟨A, k, c, hbk, hown⟩ := hwr
      clear hsz'
      have d0 : wr.cell? ⟨g, 0, none⟩ = some (.slice A k c) := hbk.cell 0
      have d1 : wr.cell? ⟨g, 1, none⟩ = some (.int .i64 0) := hbk.cell 1
      generalize xs[i] = x at *
      clear hcell hcw
      go_wp2_with fail
      refine (putVar_any _ _ _ x wr hx (by rw [List.length_append]; omega) hown.bs).mono ?_
      rintro e w2 ⟨A2, k2, c2, rfl, hown2, hbl2⟩
      have hbk2 := hbk.later hbl2
      have e1 := hbk2.free 0
      have e0 : w2.cell? ⟨g, 0, none⟩ = some (.slice A k c) := hbk2.cell 0
      go_wp2_with fail
      go_roundw
      case rel => exact ⟨i + 1, by go_num, by omega, ⟨A2, k2, c2, hbk2.put 0 _, by rw [HS.out, ← List.append_assoc]; exact own_set (hown2.lower HSZ.out) hbk2 (by decide) 0 _⟩, (hgr.trans (below_grownBy hbl2 _)).trans (grown_put _ _ _ _)⟩
      case measure => simp [intOf]; omega
    · obtain rfl : i = xs.length := by omega
      rw [List.take_length] at hwr
      have HW : Hid (Wr wr g B' (l ++ xs.flatMap varB)) := hwr.lower (by split <;> omega)
      clear hwr hB'
      go_wp2_with fail
      go_end0
      exact ⟨rfl, HW.out, hgr⟩

theorem wnum_any (g B : Nat) (l : List UInt8) (xs : List Nat) (v0 : Value) (w : World) (hw : Wr w g B l) (hB : B ≤ w.heap.size) (hgB : B ≤ g) (hx : ∀ x ∈ xs, x < U64) (hl : l.length + 10 * xs.length ≤ 1099511627776)
    (hv : Sl (fun b => b ≠ g ∧ b < w.heap.size) w 1 v0 xs.length (nums xs)) :
    Calls Tryd.prog 63 #[.pointer (some ⟨g, 0, none⟩), v0] w fun e w' => e = .returned (.tuple #[]) ∧ Wr w' g B (l ++ xs.flatMap varB) ∧ w.grownBy w' (some g) := by
  exact wnum_new g B B l xs v0 w hw hB (fun _ => Nat.le_refl _) hB hx hl hv
/-- What is written into blocks that are new since w is no change of w's. -/
theorem grown_new {w w2 w3 : World} {row r2 : Option Nat} (h : w.grownBy w2 row) (h2 : w2.grownBy w3 r2) (hk : ∀ k, r2 = some k → w.heap.size ≤ k) : w.grownBy w3 row :=
  ⟨h2.os.trans h.os, h2.tape.trans h.tape, h2.output.trans h.output, Nat.le_trans h.size h2.size, fun k hlt hr => (h2.block k (Nat.lt_of_lt_of_le hlt h.size) (fun e => by have := hk k e.symm; omega)).trans (h.block k hlt hr)⟩

set_option maxHeartbeats 1000000 in
set_option maxRecDepth 100000 in
theorem wbytes_any (g B : Nat) (l : List UInt8) (w : World) (hw : Wr w g B l) (hl : l.length ≤ 1099511627776) :
    Calls Tryd.prog 65 #[.pointer (some ⟨g, 0, none⟩)] w fun e w' => ∃ A k c, e = .returned (.tuple #[.slice A k c, .int .i64 0]) ∧ Ob 5 w' w.heap.size (.slice A k c) l ∧ Below w.heap.size w w' := by
  obtain ⟨A, k, c, hbk, hown⟩ := hw
  have d0 : w.cell? ⟨g, 0, none⟩ = some (.slice A k c) := hbk.cell 0
  have d1 : w.cell? ⟨g, 1, none⟩ = some (.int .i64 0) := hbk.cell 1
  have hg := hbk.lt
  obtain rfl := hown.len
  have HB := Lib.hid hown.bs
  clear hown hbk
  go_enter Tryd.func65, Tryd.ntmps65
  go_wp2_with (at_builtin; (refine wpList_append_bs _ rfl (.tmp 13) (.tmp 17) elemU8 rfl (Ob.made _ _ w.heap.size (Nat.le_refl _) (by simp)) (Sl.alloc1 HB.out _) rfl rfl (by simp; omega) (by simp) ?_); intro A1 k1 c1 w1 hown1 hg1 hat1)
  go_ret2
  exact ⟨A1, k1, c1, rfl, by simpa using hown1, below_grown_own ((Below.refl _ _).alloc (Nat.le_refl _) _) (Ob.made _ _ w.heap.size (Nat.le_refl _) (by simp)) hg1 (by simp)⟩
end Go.Proofs.YtpmndmgfoiagnaaDoor
