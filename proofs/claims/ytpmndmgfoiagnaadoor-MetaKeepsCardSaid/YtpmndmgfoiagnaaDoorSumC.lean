/- sum.Open: what it returns; the chapter's examples (awake). -/
import Derived.Test.YtpmndmgfoiagnaaDoorSumD
import Derived.Test.YtpmndmgfoiagnaaDoorNumB
import Derived.Test.YtpmndmgfoiagnaaDoorCut
namespace Go.Proofs.YtpmndmgfoiagnaaDoor
open Go Go.RowKit
set_option linter.unusedVariables false

theorem open_iff (l : List UInt8) (h : 4 ≤ l.length) : (l.take (l.length - 4) ++ beB (sumOf (l.take (l.length - 4))).toNat 4 = l) ↔ deB ((l.drop (l.length - 4)).take 4) = (sumOf (l.take (l.length - 4))).toNat := by
  have hd : (l.drop (l.length - 4)).length = 4 := by rw [List.length_drop]; omega
  have ht : (l.drop (l.length - 4)).take 4 = l.drop (l.length - 4) := List.take_of_length_le (by omega)
  rw [ht]
  constructor
  · intro he
    have : l.drop (l.length - 4) = beB (sumOf (l.take (l.length - 4))).toNat 4 := by
      have h2 : l.take (l.length - 4) ++ beB (sumOf (l.take (l.length - 4))).toNat 4 = l.take (l.length - 4) ++ l.drop (l.length - 4) := by rw [he, List.take_append_drop]
      exact (List.append_cancel_left h2).symm
    rw [this, deB_beB 4 _ (sum4 _)]
  · intro he
    have := beB_deB (l.drop (l.length - 4))
    rw [hd] at this
    rw [← he, this, List.take_append_drop]

def OpenPost (l : List UInt8) (w : World) (e : Ending) (w' : World) : Prop :=
  (∀ b, openB l = .ok b → ∃ A k c, e = .returned (.tuple #[.slice A k c, .int .i64 0]) ∧ Ob 5 w' w.heap.size (.slice A k c) b) ∧
  (∀ er, openB l = .error er → e = .returned (.tuple #[.slice none 0 0, .int .i64 (er : Int)])) ∧ Below w.heap.size w w'

set_option maxHeartbeats 1000000 in
set_option maxRecDepth 100000 in
theorem open_any (S : Nat → Prop) (v0 : Value) (l : List UInt8) (w : World) (hl : l.length ≤ 1099511627776) (hr : Bs S w v0 l) :
    Calls Tryd.prog 56 #[v0] w (OpenPost l w) := by
  have HR := Lib.hid hr
  have HR2 : Hid (Bs (fun b => b < w.heap.size) w v0 l) := (Sl.lt hr (by omega)).more (fun _ h => h.2)
  obtain ⟨A, c, rfl, hlc, hcm, hA0, hA⟩ := hr.at
  by_cases h4 : l.length < 4
  · clear hA hr hA0
    have HO : Hid (openB l = .error 20) := by unfold openB; rw [if_pos h4]; rfl
    go_enter Tryd.func56, Tryd.ntmps56
    go_wp2_with fail
    go_ret2
    exact ⟨fun b hb => (by rw [HO.out] at hb; cases hb), fun er her => (by rw [HO.out] at her; cases her; rfl), Below.refl _ _⟩
  · obtain ⟨b, o, rfl, _, _⟩ := hA (by omega)
    clear hA hA0
    have h4' : 4 ≤ l.length := by omega
    have HI := Lib.hid (open_iff l h4')
    have hn4 : (l.drop (l.length - 4)).length = 4 := by rw [List.length_drop]; omega
    have hc1 := Bs.pre hr (Nat.sub_le l.length 4)
    have HC1 := Lib.hid hc1
    have hc2 : Bs (fun b => b < w.heap.size) w (.slice (some ⟨b, o + (l.length - 4), none⟩) 4 (c - (l.length - 4))) (l.drop (l.length - 4)) := by
      have h := Bs.cut HR2.out (Nat.sub_le l.length 4)
      rw [if_neg (by omega), show l.length - (l.length - 4) = 4 from by omega] at h
      exact h
    have HC2 := Lib.hid hc2
    have e4 : l.length - (l.length - 4) = 4 := by omega
    have E4 := Lib.hid e4
    have hlt : (l.take (l.length - 4)).length = l.length - 4 := by rw [List.length_take]; omega
    have HLT := Lib.hid hlt
    have HO : Hid (openB l = if l.take (l.length - 4) ++ beB (sumOf (l.take (l.length - 4))).toNat 4 = l then .ok (l.take (l.length - 4)) else .error 21) := by unfold openB; rw [if_neg h4]; rfl
    have hne : ¬ c = l.length - 4 := by omega
    have HN4 := Lib.hid hn4
    clear hr hc1 hc2 h4 e4 hlt hn4
    go_enter Tryd.func56, Tryd.ntmps56
    go_wp2_with (at_builtin; go_loud (refine wpList_append_bs _ rfl (.tmp 11) (.tmp 16) elemU8 rfl (Ob.made _ _ w.heap.size (Nat.le_refl _) (by simp)) (Sl.alloc1 HC1.out _) rfl rfl (by rw [HLT.out]; simp; omega) (by simp) ?_); intro A1 k1 c1 w1 hown1 hg1 hat1)
    have hbl1 : Below w.heap.size w w1 := below_grown_own ((Below.refl _ _).alloc (Nat.le_refl _) _) (Ob.made _ _ w.heap.size (Nat.le_refl _) (by simp)) hg1 (by simp)
    have hs1 := hbl1.size
    have hown1' : Ob 5 w1 w.heap.size (.slice A1 k1 c1) (l.take (l.length - 4)) := hown1
    have HR1 : Hid (Bs (fun b => b < w.heap.size) w1 _ _) := Sl.below HC2.out hbl1 (fun _ h => h)
    have HW1 := Lib.hid hown1'
    clear hown1 hg1 hat1 hown1'
    rw [E4.out]
    refine (get_ok _ _ (l.drop (l.length - 4)) 4 w1 (by omega) (by omega) (by rw [HN4.out]; omega) (by rw [HN4.out]; omega) HR1.out).mono ?_
    rintro e w2 ⟨A2, k2, c2, rfl, _, hbl2⟩
    have HW2 := Lib.hid (HW1.out.later hbl2)
    have hbl2' := hbl1.trans (hbl2.mono hs1)
    clear hbl2 hbl1
    go_wp2_with fail
    refine (of_any _ _ (l.take (l.length - 4)) w2 (by rw [HLT.out]; omega) HW2.out.bs).mono ?_
    rintro e w3 ⟨rfl, hbl3⟩
    have HW3 := Lib.hid (HW2.out.later hbl3)
    have hbl3' := hbl2'.trans (hbl3.mono hbl2'.size)
    clear hbl3 hbl2'
    by_cases hd : deB ((l.drop (l.length - 4)).take 4) = (sumOf (l.take (l.length - 4))).toNat
    · have HO2 : Hid (openB l = .ok (l.take (l.length - 4))) := by rw [Hid, HO.out, if_pos (HI.out.2 hd)]
      have HD := Lib.hid hd
      rw [hd]
      clear hd
      go_wp2_with fail
      go_ret2
      exact ⟨fun b hb => (by rw [HO2.out] at hb; cases hb; exact ⟨A1, k1, c1, rfl, HW3.out⟩), fun er her => (by rw [HO2.out] at her; cases her), hbl3'⟩
    · have HO2 : Hid (openB l = .error 21) := by rw [Hid, HO.out, if_neg (fun h => hd (HI.out.1 h))]
      generalize deB ((l.drop (l.length - 4)).take 4) = dv at *
      have t1 : ((dv : Int) == ((sumOf (l.take (l.length - 4))).toNat : Int)) = false := by rw [beq_eq_false_iff_ne]; omega
      have t2 : ((dv : Int) != ((sumOf (l.take (l.length - 4))).toNat : Int)) = true := by rw [bne_iff_ne]; omega
      clear hd HI
      go_wp2_with fail
      go_ret2
      exact ⟨fun b hb => (by rw [HO2.out] at hb; cases hb), fun er her => (by rw [HO2.out] at her; cases her; rfl), hbl3'⟩

theorem ex_sum9 : sumOf [49, 50, 51, 52, 53, 54, 55, 56, 57] = 0xfc891918#32 := by decide +kernel
theorem ex_sum0 : sumOf [] = 0#32 := by decide +kernel
theorem ex_more : sumMore (sumOf [49, 50]) [51, 52, 53, 54, 55, 56, 57] = 0xfc891918#32 := by decide +kernel
theorem openB_seal (l : List UInt8) : openB (l ++ beB (sumOf l).toNat 4) = .ok l := by
  have hl : (l ++ beB (sumOf l).toNat 4).length - 4 = l.length := by rw [List.length_append, beB_length]; omega
  unfold openB
  rw [hl, List.take_left, if_neg (by rw [List.length_append, beB_length]; omega), if_pos rfl]

end Go.Proofs.YtpmndmgfoiagnaaDoor
