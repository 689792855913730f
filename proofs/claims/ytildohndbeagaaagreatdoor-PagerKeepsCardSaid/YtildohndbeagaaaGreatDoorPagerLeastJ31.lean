/- What the proof of PagerLeast needs, part 31. -/
import Derived.Test.YtildohndbeagaaaGreatDoorPagerLeastJ4
import Derived.Test.YtildohndbeagaaaGreatDoorPagerLeastJ29

namespace Go.Proofs.YtildohndbeagaaaGreatDoor
open Go Go.RowKit
set_option linter.unusedVariables false

def exP0 : Pgr := pgNew (Dsk.new 2000) 1 5 0 1 (0, fun _ => none)
def exP1 : Pgr := exP0.put 0 [97]
def exP2 : Pgr := exP1.put 1 [98]
theorem ex_alloc0 : exP0.alloc [97] = (exP1, 0, 0) := by
  have h : exP0.least = some 0 := by decide +kernel
  unfold Pgr.alloc
  rw [if_neg (by simp), h]
  rfl
theorem ex_alloc1 : exP1.alloc [98] = (exP2, 1, 0) := by
  have h : exP1.least = some 1 := by decide +kernel
  unfold Pgr.alloc
  rw [if_neg (by simp), h]
  rfl
theorem ex_ids : (idsOf exP2.wr).length = 2 := by decide +kernel
theorem ex_next : exP2.next ≠ none := by
  have h := (next_iff (P := exP2) (TbOk.none 5)).2 (by
    have h1 := ex_ids
    have h2 : (idsOf exP2.tb).length = 0 := ids_none
    rw [h1, h2]
    decide)
  intro e
  rw [e] at h
  cases h
theorem Px.dp {w W : World} {Z : Pz} {P : Pgr} {c : Int → List UInt8} (p : Px w W Z P c) : Dp w W Z.h P.D := ⟨p.pg.dk, fun b hb => p.new b (.inr (.inr (.inr (.inr (.inr hb))))), p.below⟩
set_option maxHeartbeats 8000000 in
set_option maxRecDepth 100000 in
theorem awake13_any (w : World) (hT : TabOk w) (hB : BitsOk w) :
    Calls Tryz.prog 9 #[] w fun e w' => e = .returned (.bool true) ∧ Below w.heap.size w w' := by
  have HT := Lib.hid hT
  have HB := Lib.hid hB
  have H0 := Lib.hid hB.pos
  clear hT hB
  have kc := run_bytes_const (P := Tryz.prog) tB tU
  go_enter Tryz.func9, Tryz.ntmps9
  go_wp2_with fail
  refine (fresh13_any 5 (fun _ => []) w (by omega) (by omega)).mono ?_
  rintro e w1 ⟨pd, Z, rfl, hx, hz⟩
  have X1 : Hid (Px w w1 Z exP0 (fun _ => [])) := hx
  have HPD := Lib.hid hz
  clear hx hz
  have XA : Hid (Px w (w1.alloc (.cells #[.int .u8 97] 5 (1, 2))) Z exP0 (fun _ => [])) := X1.out.later ((Below.refl _ _).alloc (Nat.le_refl _) _)
  have HBA := Lib.hid (Bs.lit w1 5 [97] (by simp [maxLen]) (1, 2) rfl)
  go_wp2_with fail
  refine (px_alloc XA.out _ _ _ HBA.out (by simp) rfl).mono ?_
  rintro e w2 ⟨rfl, hx, -⟩
  rw [ex_alloc0] at hx ⊢
  have X2 := Lib.hid hx
  have XB : Hid (Px w (w2.alloc (.cells #[.int .u8 98] 5 (1, 2))) Z exP1 (fun _ => [])) := X2.out.later ((Below.refl _ _).alloc (Nat.le_refl _) _)
  have HBB := Lib.hid (Bs.lit w2 5 [98] (by simp [maxLen]) (1, 2) rfl)
  clear hx X1 XA HBA
  go_wp2_with fail
  refine (px_alloc XB.out _ _ _ HBB.out (by simp) rfl).mono ?_
  rintro e w3 ⟨rfl, hx, -⟩
  rw [ex_alloc1] at hx ⊢
  have X3 := Lib.hid hx
  clear hx X2 XB HBB
  go_wp2_with fail
  refine (px_commit X3.out 7 (by unfold U64; omega) (by show (0 : Nat) + 1 ≤ 100000; omega) (HT.out.later X3.out.below) (HB.out.later X3.out.below) H0.out rfl).mono ?_
  rintro e w4 hcm
  rcases hcm with ⟨hnx, _⟩ | ⟨t, D', Z', hnx, rfl, hx, hg, hhg, -⟩
  · exact absurd hnx ex_next
  have hok := next_ok (P := exP2) (TbOk.none 5) X3.out.pk.w90 X3.out.pk.wlen hnx
  have T0 : Hid ((t 0).isSome = true) := by rw [Hid, hok.2.1 0]; rfl
  have T1 : Hid ((t 1).isSome = true) := by rw [Hid, hok.2.1 1]; rfl
  have C0 : Hid (newC exP2 (fun _ => []) 0 = [97]) := rfl
  have C1 : Hid (newC exP2 (fun _ => []) 1 = [98]) := rfl
  generalize newC exP2 (fun _ => []) = c at *
  have X4 : Hid (Px w w4 Z' ⟨D', 1, 5, 1, 0, 7, t, fun _ => none, fun _ => false⟩ c) := hx
  have HG := Lib.hid hg
  have HPD4 : Hid (Z'.h.g = pd) := hhg.trans HPD.out
  have XC : Hid (Px w (w4.alloc (.cells #[.int .u8 120] 5 (1, 2))) Z' ⟨D', 1, 5, 1, 0, 7, t, fun _ => none, fun _ => false⟩ c) := X4.out.later ((Below.refl _ _).alloc (Nat.le_refl _) _)
  have HBC := Lib.hid (Bs.lit w4 5 [120] (by simp [maxLen]) (1, 2) rfl)
  have KP : Hid (Kp D' 1 5 1 0 7 t c) := hx.pk.kp
  clear hx hg hhg hok hnx X3 X4 HPD
  go_wp2_with fail
  refine (px_write XC.out 0 _ _ _ (by unfold InI; omega) HBC.out (by simp) HG.out).mono ?_
  rintro e w5 ⟨rfl, hx, -⟩
  rw [show pgWhy 0 [120] = 0 from rfl]
  have X5 := Lib.hid hx
  have D5 : Hid (Dp w w5 Z'.h D') := by
    have := hx.dp
    unfold Pgr.write at this
    split at this <;> exact this
  clear hx XC HBC
  go_wp2_with fail
  refine (dcrash_dp (S := fun _ => True) (l := []) (v := .slice none 0 0) D5.out KP.out.mj.still.ok (show Sv (fun _ => True) w5 (.slice none 0 0) [] from Sl.nil) (by simp) (by simp) (by rw [KP.out.mj.still.pend]; simp) HPD4.out).mono ?_
  rintro e w6 ⟨rfl, h6, hd6, hg6, -⟩
  rw [still_crash KP.out.mj.still] at hd6
  have D6 := Lib.hid hd6
  clear hd6 X5 D5
  go_wp2_with fail
  refine (px_open D6.out KP.out (by omega) hg6).mono ?_
  rintro e w7 ⟨Zq, rfl, hx, hzq, -⟩
  have X7 := Lib.hid hx
  have G0 : Hid ((pgNew D' 1 5 1 0 (7, t)).page c 0 = some [97]) := by
    have h1 : (pgNew D' 1 5 1 0 (7, t)).has 0 = true := by unfold Pgr.has pgNew; simp only [T0.out]; rfl
    unfold Pgr.page
    rw [Hid, if_pos h1, ← C0.out]; rfl
  have G1 : Hid ((pgNew D' 1 5 1 0 (7, t)).page c 1 = some [98]) := by
    have h1 : (pgNew D' 1 5 1 0 (7, t)).has 1 = true := by unfold Pgr.has pgNew; simp only [T1.out]; rfl
    unfold Pgr.page
    rw [Hid, if_pos h1, ← C1.out]; rfl
  have E0 : Hid ((pgNew D' 1 5 1 0 (7, t)).has 0 = true) := by unfold Pgr.has pgNew; simp only [T0.out]; rfl
  have E1 : Hid ((pgNew D' 1 5 1 0 (7, t)).has 1 = true) := by unfold Pgr.has pgNew; simp only [T1.out]; rfl
  clear hx hzq D6 hg6 T0 T1 C0 C1
  go_wp2_with fail
  refine (px_read X7.out 0 (by unfold InI; omega) rfl).mono ?_
  rintro e w8 ⟨A8, k8, c8, rfl, ho8, q8⟩
  rw [E0.out]
  rw [G0.out] at ho8
  have X8 := Lib.hid (X7.out.later q8)
  have O8 := Lib.hid ho8
  clear ho8 q8 X7
  go_wp2_with fail
  refine (px_read X8.out 1 (by unfold InI; omega) rfl).mono ?_
  rintro e w9 ⟨A9, k9, c9, rfl, ho9, q9⟩
  rw [E1.out]
  rw [G1.out] at ho9
  have X9 := Lib.hid (X8.out.later q9)
  have cv8 : (convert 68 9 (.slice A8 k8 c8)).run Tryz.prog w9 = .ok (.string (st [97])) w9 := run_string_of_bs (P := Tryz.prog) (O8.out.later q9).bs tB tU tS
  have cv9 : (convert 68 9 (.slice A9 k9 c9)).run Tryz.prog w9 = .ok (.string (st [98])) w9 := run_string_of_bs (P := Tryz.prog) ho9.bs tB tU tS
  have HTG := Lib.hid (px_tag X9.out rfl)
  have HBL := Lib.hid X9.out.below
  clear ho9 q9 X8 O8
  go_wp2_with (first
    | (go_at_call 17; refine HTG.out.mono ?_; rintro e wt ⟨rfl, rfl⟩)
    | fail)
  go_ret
  exact ⟨rfl, HBL.out⟩
end Go.Proofs.YtildohndbeagaaaGreatDoor
