/- What the proof of PagePuts needs, part 12. -/
import Derived.Test.YtlidbgidbpaenaaDoorPagePutsJ11

namespace Go.Proofs.YtlidbgidbpaenaaDoor
open Go Go.RowKit
set_option linter.unusedVariables false

theorem Cs.put3 {S : Nat → Prop} {w : World} {sl : Value} {cs : List Cel} {g1 L B : Nat} (h : Cs S w sl cs) (hS : ∀ b, S b → L ≤ b ∧ b < w.heap.size) (h1 : g1 < L) (hB : B ≤ L) (x y z : Value) :
    Cs (fun b => B ≤ b ∧ b < (((w.setCell ⟨g1, 0, none⟩ x).setCell ⟨g1, 1, none⟩ y).setCell ⟨g1, 2, none⟩ z).heap.size)
      (((w.setCell ⟨g1, 0, none⟩ x).setCell ⟨g1, 1, none⟩ y).setCell ⟨g1, 2, none⟩ z) sl cs := by
  have n1 : ¬ S g1 := fun e => by have := (hS _ e).1; omega
  refine Sl.more (((Sl.setCell h (p := ⟨g1, 0, none⟩) n1 x).setCell (p := ⟨g1, 1, none⟩) n1 y).setCell (p := ⟨g1, 2, none⟩) n1 z) fun b hb => ?_
  have := hS b hb
  exact ⟨by omega, by simpa using this.2⟩

theorem own_lower' {w : World} {B B' : Nat} {v : Value} {cs : List Cel} (h : Co w B v cs) (hB : B' ≤ B) : Co w B' v cs := by
  obtain ⟨h1, h2⟩ := h
  refine ⟨h1, ?_⟩
  rcases h2 with h2 | ⟨g, cap, cur, hv, hg, r⟩
  · exact .inl h2
  · exact .inr ⟨g, cap, cur, hv, Nat.le_trans hB hg, r⟩

set_option maxHeartbeats 2000000 in
set_option maxRecDepth 100000 in
theorem pjoin_any (S S' : Nat → Prop) (l1 l2 : Bool) (n1 n2 : Int) (va vb : Value) (us vs : List Cel) (w : World) (hu : us.length ≤ 1000000) (hv : vs.length ≤ 1000000) (ha : Cs S w va us) (hb : Cs S' w vb vs) :
    Calls Tryd.prog 26 #[.agg #[.bool l1, .int .i64 n1, va], .agg #[.bool l2, .int .i64 n2, vb]] w fun e w' => ∃ v, e = .returned v ∧ PgIs w.heap.size w' v l1 n2 (us ++ vs) ∧ Below w.heap.size w w' := by
  have HA := Lib.hid ha.lt
  have HB := Lib.hid hb.lt
  obtain ⟨A, c, rfl, _⟩ := ha.at
  obtain ⟨B, d, rfl, _⟩ := hb.at
  clear ha hb
  have b1 : Blk (((w.alloc (.cells #[.bool l1, .int .i64 n2, .slice A us.length c] 24)).alloc (.cells #[.bool l2, .int .i64 n2, .slice B vs.length d] 24)).alloc (.cells #[.bool false, .int .i64 0, .slice none 0 0] 24)) w.heap.size 24 #[.bool l1, .int .i64 n2, .slice A us.length c] := ((Blk.new _ _ _).alloc _).alloc _
  have b2 : Blk (((w.alloc (.cells #[.bool l1, .int .i64 n2, .slice A us.length c] 24)).alloc (.cells #[.bool l2, .int .i64 n2, .slice B vs.length d] 24)).alloc (.cells #[.bool false, .int .i64 0, .slice none 0 0] 24)) (w.heap.size + 1) 24 #[.bool l2, .int .i64 n2, .slice B vs.length d] := (Blk.new1 _ _ _ _).alloc _
  have b3 : Blk (((w.alloc (.cells #[.bool l1, .int .i64 n2, .slice A us.length c] 24)).alloc (.cells #[.bool l2, .int .i64 n2, .slice B vs.length d] 24)).alloc (.cells #[.bool false, .int .i64 0, .slice none 0 0] 24)) (w.heap.size + 1 + 1) 24 #[.bool false, .int .i64 0, .slice none 0 0] := by
    have := Blk.new1 (w.alloc (.cells #[.bool l1, .int .i64 n2, .slice A us.length c] 24)) (.cells #[.bool l2, .int .i64 n2, .slice B vs.length d] 24) 24 #[.bool false, .int .i64 0, .slice none 0 0]
    simpa using this
  have q0 : Below w.heap.size w (((w.alloc (.cells #[.bool l1, .int .i64 n2, .slice A us.length c] 24)).alloc (.cells #[.bool l2, .int .i64 n2, .slice B vs.length d] 24)).alloc (.cells #[.bool false, .int .i64 0, .slice none 0 0] 24)) := (((Below.refl _ _).alloc (Nat.le_refl _) _).alloc (by simp) _).alloc (by simp; omega) _
  go_enter Tryd.func26, Tryd.ntmps26
  go_wp2_with fail
  generalize hW : (((w.alloc (.cells #[.bool l1, .int .i64 n2, .slice A us.length c] 24)).alloc (.cells #[.bool l2, .int .i64 n2, .slice B vs.length d] 24)).alloc (.cells #[.bool false, .int .i64 0, .slice none 0 0] 24)) = W at *
  clear hW
  have d0 : W.cell? ⟨w.heap.size, 0, none⟩ = some (.bool l1) := b1.cell 0
  have d1 : W.cell? ⟨w.heap.size, 1, none⟩ = some (.int .i64 n2) := b1.cell 1
  have d2 : W.cell? ⟨w.heap.size, 2, none⟩ = some (.slice A us.length c) := b1.cell 2
  have d3 : W.cell? ⟨w.heap.size + 1, 2, none⟩ = some (.slice B vs.length d) := b2.cell 2
  have hWs := b3.lt
  have HB3 := Lib.hid b3
  have q1 : Below W.heap.size W (W.alloc (.cells #[.slice A us.length c, .slice B vs.length d] 22)) := (Below.refl _ _).alloc (Nat.le_refl _) _
  have HC := Lib.hid (pconcat_any W.heap.size (.slice A us.length c) (.slice B vs.length d) us vs (W.alloc (.cells #[.slice A us.length c, .slice B vs.length d] 22)) hu hv (Blk.new _ _ _) ((HA.out.up q0).up q1) ((HB.out.up q0).up q1))
  have HCd := Lib.hid (pconcat_any W.heap.size (.slice A us.length c) (.slice B vs.length d) us vs (W.alloc (.cells #[.slice A us.length c, .slice B vs.length d] 22)).drew hu hv (Blk.new _ _ _) ((HA.out.up q0).up q1.drew) ((HB.out.up q0).up q1.drew))
  obtain ⟨cs, hcs⟩ : ∃ cs, us ++ vs = cs := ⟨_, rfl⟩
  have HCS := Lib.hid hcs
  rw [hcs] at HC HCd
  clear hcs b1 b2 b3
  have n1' : ¬ w.heap.size = w.heap.size + 1 + 1 := by omega
  have n2' : ¬ w.heap.size + 1 + 1 = w.heap.size := by omega
  have n5 : ¬ w.heap.size + 1 = w.heap.size + 1 + 1 := by omega
  have n6 : ¬ w.heap.size + 1 + 1 = w.heap.size + 1 := by omega
  have l0 : ¬ w.heap.size = W.heap.size := by omega
  have l1' : ¬ w.heap.size + 1 = W.heap.size := by omega
  go_region_held3 (fun w' => w'.cell? ⟨w.heap.size, 0, none⟩ = some (.bool l1) ∧ w'.cell? ⟨w.heap.size, 1, none⟩ = some (.int .i64 n2) ∧ w'.cell? ⟨w.heap.size, 2, none⟩ = some (.slice A us.length c) ∧ w'.cell? ⟨w.heap.size + 1, 2, none⟩ = some (.slice B vs.length d))
    (first
      | go_keep
      | (go_split_ands
         refine ⟨?_, ?_, ?_, ?_⟩ <;> (apply cell_later hbz; assumption))
      | (go_split_ands
         refine ⟨?_, ?_, ?_, ?_⟩ <;> (rw [World.cell?_alloc_lt _ _ _ (by simp; omega)]; assumption)))
    ((first
      | (go_at_call 56; (first | refine HC.out.mono ?_ | refine HCd.out.mono ?_); rintro e w6 ⟨A6, c6, rfl, hco6, hbz⟩; have hz6 : Below (W.alloc (.cells #[.slice A us.length c, .slice B vs.length d] 22)).heap.size (W.alloc (.cells #[.slice A us.length c, .slice B vs.length d] 22)) w6 := ⟨hbz.os, hbz.tape, hbz.output, hbz.size, hbz.block⟩; have hq6 := q1.trans (hz6.mono q1.size); have hco6' : Co w6 W.heap.size (.slice A6 cs.length c6) cs := own_lower' hco6 (by simp))
      | (go_at_call 54; refine (with_any (fun b => W.heap.size ≤ b ∧ b < w6.heap.size) l1 n2 _ _ cs _ (by exact hco6'.cs)).mono ?_; rintro e w7 ⟨A7, c7, rfl, hcs7, hbz⟩; have hz7 : Below w6.heap.size w6 w7 := ⟨hbz.os, hbz.tape, hbz.output, hbz.size, hbz.block⟩; have hq7 : Below W.heap.size W w7 := hq6.trans (hz7.mono hq6.size); have k2 := HB3.out.later hq7; have k20 : w7.cell? ⟨w.heap.size + 1 + 1, 0, none⟩ = some (.bool false) := k2.cell 0; have k21 : w7.cell? ⟨w.heap.size + 1 + 1, 1, none⟩ = some (.int .i64 0) := k2.cell 1; have k22 : w7.cell? ⟨w.heap.size + 1 + 1, 2, none⟩ = some (.slice none 0 0) := k2.cell 2; have j20 := k2.free 0; have j21 := k2.free 1; have j22 := k2.free 2)))
  all_goals
    go_wp2_with fail
    exact bodyPost_ret (results_cell1 rfl _ _ (w.heap.size + 1 + 1) rfl (k2.put3 _ _ _) pageTy) rfl ⟨_, rfl, by rw [HCS.out]; exact ⟨A7, c7, rfl, Cs.put3 (L := W.heap.size) hcs7 (fun b h => ⟨h.1.1, Nat.lt_of_lt_of_le h.2 hz7.size⟩) hWs (by omega) _ _ _⟩, below_put3 (q0.trans (hq7.mono q0.size)) (by omega) _ _ _⟩
end Go.Proofs.YtlidbgidbpaenaaDoor
