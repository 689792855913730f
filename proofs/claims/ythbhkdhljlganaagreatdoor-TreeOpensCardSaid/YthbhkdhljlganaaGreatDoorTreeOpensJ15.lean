/- What the proof of TreeOpens needs, part 15. -/
import Derived.Test.YthbhkdhljlganaaGreatDoorTreeOpensJ14

namespace Go.Proofs.YthbhkdhljlganaaGreatDoor
open Go Go.RowKit
set_option linter.unusedVariables false

/-- The pages that Open finds, or begins with. -/
def opP (P : Pgr) : Pgr := if P.pages.length = 0 then P.wp 0 (true, 0, []) else P
/-- What Open returns. -/
def TOpenPost (Z : Pz) (P : Pgr) (c : Int → List UInt8) (w : World) (e : Ending) (w' : World) : Prop :=
  Ptp Z w Z w' ∧ Pg w' Z (opP P) ∧ Kin P (opP P) ∧ ((chkT ((opP P).pg c) (opP P).pages.length = true ∧ ∃ g, w.heap.size ≤ g ∧ e = .returned (.tuple #[.pointer (some ⟨g, 0, none⟩), .int .i64 0]) ∧ Tg w' g Z (opP P) c) ∨
    (chkT ((opP P).pg c) (opP P).pages.length = false ∧ e = .returned (.tuple #[.pointer none, .int .i64 142])))
theorem mid_nil : Mid [] := ⟨by simp, fun c h => by cases h⟩
set_option maxHeartbeats 4000000 in
set_option maxRecDepth 100000 in
theorem topen_any (Z : Pz) (P : Pgr) (c : Int → List UInt8) (w : World) (hp : Pg w Z P) (hr : Pr P c) (hb : BitsOk w) (z0 : ¬ Z.has 0) :
    Calls Tryz.prog 10 #[.pointer (some ⟨Z.g, 0, none⟩)] w (TOpenPost Z P c w) := by
  have q1 := (Below.refl w.heap.size w).alloc (Nat.le_refl _) (.cells #[.pointer (some ⟨Z.g, 0, none⟩)] 102)
  have HQ := Lib.hid q1
  have HT : Hid (Tg (w.alloc (.cells #[.pointer (some ⟨Z.g, 0, none⟩)] 102)) w.heap.size Z P c) := ⟨hp.later q1, Blk.new _ _ _, hr, hb.later q1, z0⟩
  clear hp hr hb q1
  go_enter Tryz.func10, Tryz.ntmps10
  go_wp2_with fail
  generalize hW : w.alloc (.cells #[.pointer (some ⟨Z.g, 0, none⟩)] 102) = W at *
  clear hW
  refine (ppages_any Z P W HT.out.pg).mono ?_
  rintro e w1 ⟨v, rfl, ho, hb1⟩
  obtain ⟨A, k, c1, rfl⟩ := own_slice ho
  obtain rfl := own_len ho
  have hil : (il P.pages).length = P.pages.length := by simp [il]
  rw [hil]
  have HT1 := Lib.hid (HT.out.later hb1)
  have HS1 := Lib.hid ((Ptp.below (Z := Z) HQ.out).trans (Ptp.below hb1))
  clear ho hb1 hil
  by_cases h0 : P.pages.length = 0
  · have hop : opP P = P.wp 0 (true, 0, []) := if_pos h0
    have h1 : ((P.pages.length : Int) == 0) = true := by rw [h0]; rfl
    have HOP := Lib.hid hop
    clear h0 hop
    go_wp2_with fail
    refine (twrite_any w.heap.size Z P c 0 (fun _ => True) true 0 (.slice none 0 0) [] w1 HT1.out (by unfold InI; omega) mid_nil (by omega) Sl.nil).mono ?_
    rintro e w2 ⟨rfl, ht2, hs2⟩
    have HT2 := Lib.hid ht2
    have HS2 := Lib.hid (HS1.out.trans hs2)
    clear ht2 hs2 h1
    go_wp2_with fail
    refine (tcheck_any w.heap.size Z _ c w2 HT2.out).mono ?_
    rintro e w3 ⟨rfl, hb3⟩
    have HT3 := Lib.hid (HT2.out.later hb3)
    have HS3 := Lib.hid (HS2.out.trans (Ptp.below hb3))
    clear hb3
    cases hck : chkT ((P.wp 0 (true, 0, [])).pg c) (P.wp 0 (true, 0, [])).pages.length with
    | true =>
      go_wp2_with fail
      go_ret2
      unfold TOpenPost
      rw [HOP.out]
      exact ⟨HS3.out, HT3.out.pg, Kin.wp _ _ _, .inl ⟨hck, _, Nat.le_refl _, rfl, HT3.out⟩⟩
    | false =>
      go_wp2_with fail
      go_ret2
      unfold TOpenPost
      rw [HOP.out]
      exact ⟨HS3.out, HT3.out.pg, Kin.wp _ _ _, .inr ⟨hck, rfl⟩⟩
  · have hop : opP P = P := if_neg h0
    have h1 : ((P.pages.length : Int) == 0) = false := beq_eq_false_iff_ne.2 (by omega)
    have HOP := Lib.hid hop
    clear h0 hop
    go_wp2_with fail
    refine (tcheck_any w.heap.size Z _ c w1 HT1.out).mono ?_
    rintro e w3 ⟨rfl, hb3⟩
    have HT3 := Lib.hid (HT1.out.later hb3)
    have HS3 := Lib.hid (HS1.out.trans (Ptp.below hb3))
    clear hb3
    cases hck : chkT (P.pg c) P.pages.length with
    | true =>
      go_wp2_with fail
      go_ret2
      unfold TOpenPost
      rw [HOP.out]
      exact ⟨HS3.out, HT3.out.pg, Kin.refl _, .inl ⟨hck, _, Nat.le_refl _, rfl, HT3.out⟩⟩
    | false =>
      go_wp2_with fail
      go_ret2
      unfold TOpenPost
      rw [HOP.out]
      exact ⟨HS3.out, HT3.out.pg, Kin.refl _, .inr ⟨hck, rfl⟩⟩
end Go.Proofs.YthbhkdhljlganaaGreatDoor
