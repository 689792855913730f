/- code.Writer.Text: what it returns. -/
import Derived.Test.YtpmndmgfoiagnaaDoorCodA
import Derived.Test.YtpmndmgfoiagnaaDoorStrB
namespace Go.Proofs.YtpmndmgfoiagnaaDoor
open Go Go.RowKit
set_option linter.unusedVariables false

/-- A new block of one cell reads as that cell. -/
theorem Sl.new1 {S : Nat → Prop} (w : World) (e : TypeId) (u : Value) {g : Nat} (hg : g = w.heap.size) (hS : S g) : Sl S (w.alloc (.cells #[u] e)) 1 (.slice (some ⟨g, 0, none⟩) 1 1) 1 [u] := by
  subst hg
  refine ⟨by simp, _, 1, rfl, by simp, by simp [maxLen], (fun h => by cases h), fun _ => ⟨_, 0, rfl, hS, fun j v hu => ?_⟩⟩
  rcases j with _ | j
  · simp at hu
    subst hu
    rw [World.cell?_alloc_new]
    rfl
  · simp at hu

def textB (s : List UInt8) : List UInt8 := varB s.length ++ s
def txts (ss : List (List UInt8)) : List Value := ss.map fun s => .string (st s)
theorem txts_at {xs : List (List UInt8)} {j : Nat} (h : j < xs.length) : (txts xs)[j]? = some (.string (st xs[j])) := by simp [txts, List.getElem?_eq_getElem h]
theorem textB_len {s : List UInt8} (h : s.length ≤ 65536) : (textB s).length ≤ 65546 := by
  unfold textB
  have := varB_le10 (show s.length < U64 by unfold U64; omega)
  rw [List.length_append]
  omega
theorem texts_len (xs : List (List UInt8)) (h : ∀ x ∈ xs, x.length ≤ 65536) : (xs.flatMap textB).length ≤ 65546 * xs.length := by
  induction xs with
  | nil => simp
  | cons x xs ih =>
    have h1 := textB_len (h x (by simp))
    have h2 := ih (fun y hy => h y (by simp [hy]))
    rw [List.flatMap_cons, List.length_append, List.length_cons]
    omega
theorem texts_take_succ {xs : List (List UInt8)} {i : Nat} (h : i < xs.length) : (xs.take (i + 1)).flatMap textB = (xs.take i).flatMap textB ++ textB xs[i] := by
  rw [List.take_succ_eq_append_getElem h, List.flatMap_append]; simp

set_option maxHeartbeats 1000000 in
set_option maxRecDepth 100000 in
theorem wtext_any (g B : Nat) (l : List UInt8) (xs : List (List UInt8)) (v0 : Value) (w : World) (hw : Wr w g B l) (hB : B ≤ w.heap.size) (hgB : B ≤ g) (hx : ∀ x ∈ xs, x.length ≤ 65536) (hl : l.length + 65546 * xs.length ≤ 1099511627776)
    (hv : Sl (fun b => b ≠ g ∧ b < w.heap.size) w 1 v0 xs.length (txts xs)) :
    Calls Tryd.prog 64 #[.pointer (some ⟨g, 0, none⟩), v0] w fun e w' => e = .returned (.tuple #[]) ∧ Wr w' g B (l ++ xs.flatMap textB) ∧ w.grownBy w' (some g) := by
  have HV := Lib.hid hv
  obtain ⟨_, A0, c0, rfl, hnc, hcm, hA0, hA⟩ := hv
  have HA := Lib.hid hA
  have hml : xs.length ≤ 16777216 := by omega
  have HX := Lib.hid hx
  have R0 : Wr w g B (l ++ (xs.take 0).flatMap textB) ∧ w.grownBy w (some g) := ⟨by simpa using hw, World.grownBy.refl _ _⟩
  clear hA hx hw
  go_enter Tryd.func64, Tryd.ntmps64
  go_wp2_with fail
  go_loopw [5, 8] (fun _ iv wr => ∃ i : Nat, iv = .int .i64 (i : Int) ∧ i ≤ xs.length ∧ Wr wr g B (l ++ (xs.take i).flatMap textB) ∧ w.grownBy wr (some g)) (fun _ iv _ => xs.length - (intOf iv).toNat)
  case atStart => exact ⟨0, rfl, by omega, R0⟩
  case round =>
    obtain ⟨i, rfl, hi, hwr, hgr⟩ := hrel
    clear R0
    have hsz := hgr.size
    by_cases hil : i < xs.length
    · obtain ⟨b, o, rfl, ⟨hbg, hbl⟩, hcell⟩ := HA.out (by omega)
      have hcw := hcell i _ (txts_at hil)
      have hc : wr.cell? ⟨b, o + i, none⟩ = some (.string (st xs[i])) := by
        rw [World.cell?_of_block (hgr.block b hbl (by simpa using hbg))]
        exact hcw
      have hx := HX.out _ (List.getElem_mem hil)
      have hlen : (l ++ (xs.take i).flatMap textB).length ≤ l.length + 65546 * i := by
        have h1 := texts_len (xs.take i) (fun x hx => HX.out x (List.mem_of_mem_take hx))
        rw [List.length_take] at h1
        rw [List.length_append]
        omega
      have HS := Lib.hid (texts_take_succ hil)
      obtain ⟨A, k, c, hbk, hown⟩ := id hwr
      have d1 : wr.cell? ⟨g, 1, none⟩ = some (.int .i64 0) := hbk.cell 1
      have hgl := hbk.lt
      generalize xs[i] = x at *
      have t0 : decide (65536 < x.length) = false := by rw [decide_eq_false_iff_not]; omega
      have hv10 := varB_le10 (show x.length < U64 by unfold U64; omega)
      have HW := Lib.hid hwr
      clear hcell hcw hbk hown hwr
      go_wp2_with fail
      refine (wnum_new g B wr.heap.size (l ++ (xs.take i).flatMap textB) [x.length] _ _ (HW.out.alloc _) (by simp; omega) (by intro h; simp at h) (by simp) (by intro y hy; simp at hy; subst hy; unfold U64; omega) (by have := hlen; simp only [List.length_cons, List.length_nil]; omega) (Sl.new1 wr _ _ (by simp) ⟨by omega, by simp⟩)).mono ?_
      rintro e w2 ⟨rfl, hw2, hg2⟩
      have hsz2 := hg2.size
      simp only [List.flatMap_cons, List.flatMap_nil, List.append_nil] at hw2
      obtain ⟨A2, k2, c2, hbk2, hown2⟩ := hw2
      have e0 : w2.cell? ⟨g, 0, none⟩ = some (.slice A2 k2 c2) := hbk2.cell 0
      have e1 : w2.cell? ⟨g, 1, none⟩ = some (.int .i64 0) := hbk2.cell 1
      have hs2 : wr.heap.size ≤ w2.heap.size := by simp at hsz2; omega
      have hg2' : w.grownBy w2 (some g) := (hgr.trans (below_grownBy ((Below.refl _ _).alloc (Nat.le_refl _) _) _)).trans hg2
      have hll : (l ++ (xs.take i).flatMap textB ++ varB x.length).length + x.length ≤ 140737488355328 := by rw [List.length_append]; omega
      go_wp2_with (at_builtin; go_loud (refine wpList_append_st _ rfl (.tmp 40) (.tmp 41) elemU8 tS rfl hown2 rfl rfl hll hs2 ?_); intro A3 k3 c3 w3 hown3 hg3; have hbk3 := hbk2.kept hown2 hg3 (by decide); have d0 : w3.cell? ⟨g, 0, none⟩ = some (.slice A2 k2 c2) := hbk3.cell 0; have f0 := hbk3.free 0)
      go_roundw
      case rel =>
        refine ⟨i + 1, by go_num, by omega, ⟨A3, k3, c3, hbk3.put 0 _, ?_⟩, ?_⟩
        · rw [HS.out, ← List.append_assoc]
          have := own_set (Ob.lower hown3 (show B ≤ _ by omega)) hbk3 (by decide) 0 (.slice A3 k3 c3)
          unfold textB at *
          rw [← List.append_assoc]
          exact this
        · exact (grown_new hg2' hg3 (fun k hk => Nat.le_trans hsz (hown2.lt k hk).1)).trans (grown_put _ _ _ _)
      case measure => simp [intOf]; omega
    · obtain rfl : i = xs.length := by omega
      rw [List.take_length] at hwr
      go_wp2_with fail
      go_end0
      exact ⟨rfl, hwr, hgr⟩
end Go.Proofs.YtpmndmgfoiagnaaDoor
