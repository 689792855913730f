/- The statements of layer 1: the chapter's examples (awake). -/
import Derived.Test.YtgoemlcbpnnciaaDoorNumR
namespace Go.Proofs.YtgoemlcbpnnciaaDoor
open Go Go.RowKit
set_option linter.unusedVariables false

theorem ex_be : beB 258 2 = [1, 2] := by decide +kernel
theorem ex_var : varB 300 = [172, 2] := by
  rw [varB_hi (by omega), varB_lo (by omega)]; decide +kernel

set_option maxHeartbeats 2000000 in
set_option maxRecDepth 100000 in
theorem awake_any (w : World) (hb : BitsOk w) :
    Calls Tryd.prog 15 #[] w fun e w' => e = .returned (.bool true) ∧ Below w.heap.size w w' := by
  have HB := Lib.hid hb
  clear hb
  have l12 : (⟨#[1, 2]⟩ : ByteArray) = st [1, 2] := rfl
  have l172 : (⟨#[172, 2]⟩ : ByteArray) = st [172, 2] := rfl
  have l9 : (⟨#[9]⟩ : ByteArray) = st [9] := rfl
  go_enter Tryd.func15, Tryd.ntmps15
  go_wp2_with fail
  refine (put_ok (fun _ => False) (.slice none 0 0) [] 258 2 w (by omega) (by omega) (by unfold U64; omega) (fun _ => by decide) HB.out (by simp) (Bs.nilv _ _)).mono ?_
  rintro e w1 ⟨A1, k1, c1, rfl, hown1, hbl1⟩
  go_wp2_with fail
  refine (put_over (.slice none 0 0) 256 1 w1 (by omega) (by omega) (by unfold U64; omega) (by decide) (HB.out.later hbl1)).mono ?_
  rintro e w2 ⟨rfl, hbl2⟩
  go_wp2_with fail
  refine (getVar_any _ _ [172, 2, 9] _ (by simp) (Bs.lit w2 _ [172, 2, 9] (by simp [maxLen]) _ rfl)).mono ?_
  rintro e w3 ⟨hok, _⟩
  obtain ⟨A3, k3, c3, rfl, hown3, hbl3⟩ := hok 300 2 (by simp [getVarB, getV])
  clear hok
  go_wp2_with fail
  refine (getVar_any _ _ [128] _ (by simp) (Bs.lit w3 _ [128] (by simp [maxLen]) _ rfl)).mono ?_
  rintro e w4 ⟨_, hok⟩
  obtain ⟨rfl, hbl4⟩ := hok 10 (by simp [getVarB, getV])
  clear hok
  go_wp2_with fail
  refine (getVar_any _ _ [128, 0] _ (by simp) (Bs.lit w4 _ [128, 0] (by simp [maxLen]) _ rfl)).mono ?_
  rintro e w5 ⟨_, hok⟩
  obtain ⟨rfl, hbl5⟩ := hok 12 (by simp [getVarB, getV])
  clear hok
  have b1 := hbl1.size
  have b2 := hbl2.size
  have b3 := hbl3.size
  have b4 := hbl4.size
  have b5 := hbl5.size
  simp only [World.size_alloc] at b3 b4 b5
  have q3 : Below w2.heap.size w2 w3 := ((Below.refl _ _).alloc (Nat.le_refl _) _).trans (hbl3.mono (by simp))
  have q4 : Below w3.heap.size w3 w4 := ((Below.refl _ _).alloc (Nat.le_refl _) _).trans (hbl4.mono (by simp))
  have q5 : Below w4.heap.size w4 w5 := ((Below.refl _ _).alloc (Nat.le_refl _) _).trans (hbl5.mono (by simp))
  have o1 := (((hown1.later hbl2).later q3).later q4).later q5
  have o3 := (hown3.later q4).later q5
  have B5 := ((((HB.out.later hbl1).later hbl2).later q3).later q4).later q5
  have hbl : Below w.heap.size w w5 := (((hbl1.trans (hbl2.mono b1)).trans (q3.mono (by omega))).trans (q4.mono (by omega))).trans (q5.mono (by omega))
  clear hown1 hown3 hbl1 hbl2 hbl3 hbl4 hbl5 q3 q4 q5 b1 b2 b3 b4 HB
  rw [show beB 258 2 = [1, 2] from ex_be] at o1
  have cv1 := run_string_of_bs (P := Tryd.prog) o1.bs tB tU tS
  go_wp2_with fail
  refine (putVar_any (fun _ => False) (.slice none 0 0) [] 300 w5 (by unfold U64; omega) (by rw [ex_var]; simp) (Bs.nilv _ _)).mono ?_
  rintro e w6 ⟨A6, k6, c6, rfl, hown6, hbl6⟩
  rw [ex_var] at hown6
  have cv6 := run_string_of_bs (P := Tryd.prog) hown6.bs tB tU tS
  have o3' := o3.later hbl6
  have cv3 := run_string_of_bs (P := Tryd.prog) o3'.bs tB tU tS
  have hbl6' : Below w.heap.size w w6 := hbl.trans (hbl6.mono hbl.size)
  clear cv1 o1 hbl hbl6 B5 o3 hown6
  have kc := run_bytes_const (P := Tryd.prog) tB tU
  go_wp2_with fail
  go_goals
  refine (cmp_any _ _ _ _ [97] [97, 98] _ (by simp) (by simp) ((Bs.lit w6 _ [97] (by simp [maxLen]) (1, 2) rfl).alloc (by simp) _) (Bs.lit (w6.alloc _) _ [97, 98] (by simp [maxLen]) (2, 3) (by simp))).mono ?_
  rintro e w7 ⟨rfl, hdr⟩
  rw [show cmpB [97] [97, 98] = -1 from rfl]
  have hbl7 : Below w.heap.size w w7 := ((hbl6'.alloc hbl6'.size _).alloc (by have := hbl6'.size; simp; omega) _).trans (hdr.below _)
  clear hdr hbl6' cv6 cv3 kc
  go_wp2_with fail
  refine (size_any 300 w7 (by unfold U64; omega)).mono ?_
  rintro e w8 ⟨rfl, rfl⟩
  rw [ex_var]
  go_wp2_with fail
  go_ret
  exact ⟨rfl, hbl7⟩

end Go.Proofs.YtgoemlcbpnnciaaDoor
