/- What the proof of PagePuts needs, part 25. -/
import Derived.Test.YtlidbgidbpaenaaDoorPagePutsJ24
import Derived.Laws.Externs
import Derived.Deep.RegionLaw
import Derived.Deep.Cut
import Derived.Deep.DeepCutAuto

namespace Go.Proofs.YtlidbgidbpaenaaDoor
open Go Go.RowKit
set_option linter.unusedVariables false

set_option maxHeartbeats 8000000 in
set_option maxRecDepth 100000 in
theorem pinsert_room (B g cap : Nat) (cur : Array Value) (l : List Cel) (x : Cel) (i vb : Nat) (w : World) (hBg : B ≤ g) (hg : w.heap[g]? = some (.cells cur 47 (0, 0))) (hcm : cap ≤ maxLen) (hcs : cur.size = cap * 2) (hct : cur.toList.take (l.length * 2) = ccs l)
    (hx : Blk w vb 47 #[.string (st x.1), .string (st x.2)]) (hne : vb ≠ g) (hi : i < l.length) (hl : l.length ≤ 1000000) (hroom : l.length + 1 ≤ cap) :
    Calls Tryd.prog 58 #[.slice (some ⟨g, 0, none⟩) l.length cap, .int .i64 (i : Int), .slice (some ⟨vb, 0, none⟩) 1 1] w fun e w' => ∃ A' c', e = .returned (.slice A' (l.length + 1) c') ∧ Co w' B (.slice A' (l.length + 1) c') (l.take i ++ x :: l.drop i) ∧ Below B w w' := by
  obtain ⟨n, hn⟩ : ∃ n, l.length = n := ⟨_, rfl⟩
  rw [hn] at hct hi hl hroom ⊢
  have hcelg : ∀ j v, (ccs l)[j]? = some v → w.cell? ⟨g, j, none⟩ = some v := fun j v hj => by
    rw [← hct] at hj
    have h1 := (List.getElem?_eq_some_iff.1 hj).1
    rw [List.length_take, Array.length_toList] at h1
    rw [List.getElem?_take_of_lt (by omega), Array.getElem?_toList] at hj
    simp [World.cell?, hg, hj]
  have hov : ∀ lb cb, (callFunc 72 #[.slice (some ⟨vb, 0, none⟩) 1 1, .slice (some ⟨g, (i + 1) * 2, none⟩) lb cb]).run Tryd.prog w = .ok (.value (.bool false)) w := fun lb cb => by
    rw [run_callFunc_extern Tryd.func72 (by kernel_rfl) (by kernel_rfl) (by kernel_rfl) (e := Extern.SlicesOverlaps.overlaps #[22, 22] #[4]) (by kernel_rfl),
      Lib.run_overlaps_apart w 22 4 47 Tryd.underlying22 2 (fun _ => by rfl) ⟨vb, 0, none⟩ ⟨g, (i + 1) * 2, none⟩ 1 1 lb cb hne 47 47 2 cur.size (by unfold Blk at hx; simp [World.shape?, hx]) (by simp [World.shape?, hg]) (by rw [hcs]; omega) (hx.free 0) (by unfold Blk at hx; simp [World.frozen?, hx])]
    rfl
  have hdl : (ccs (l.drop i)).length = (n - i) * 2 := by rw [ccs_len, List.length_drop, hn]
  have hX : (ccs [x]).length = 2 := rfl
  obtain ⟨row1, hrow1⟩ : ∃ row1, (cur.toList.take ((i + 1) * 2) ++ ccs (l.drop i) ++ cur.toList.drop ((i + 1) * 2 + (ccs (l.drop i)).length)).toArray = row1 := ⟨_, rfl⟩
  have hr1s : row1.size = cap * 2 := by
    rw [← hrow1]
    simp only [List.size_toArray, List.length_append, List.length_take, List.length_drop, Array.length_toList, hdl]
    omega
  have hc1 := fun ty dc sc => run_copy_rowN Tryd.prog w.drew 22 22 ty 47 g ((i + 1) * 2) (n - i) dc ⟨g, i * 2, none⟩ (n + 1 - i) sc 2 cur 47 (ccs (l.drop i)) Tryd.underlying22 celSize (by show w.heap[g]? = _; exact hg) (by rw [show Nat.min (n + 1 - i) (n - i) = n - i from Nat.min_eq_right (by omega)]; exact hdl)
    (fun j v hj => by
      rw [Addr.add_lit]
      exact hcelg (i * 2 + j) v (by rw [← ccs_drop, List.getElem?_drop] at hj; exact hj))
    (by rw [hdl, hcs]; omega) (ccs_one _)
  rw [hrow1, show Nat.min (n + 1 - i) (n - i) = n - i from Nat.min_eq_right (by omega)] at hc1
  obtain ⟨W2, hW2⟩ : ∃ W2, w.drew.setRow g row1 = W2 := ⟨_, rfl⟩
  have hb2 : Below B w W2 := by rw [← hW2]; exact below_setRow (Below.refl _ _).drew hBg _
  have hg2 : W2.heap[g]? = some (.cells row1 47 (0, 0)) := by rw [← hW2]; exact setRow_heap w.drew _ _ _ _ _ (by show w.heap[g]? = _; exact hg)
  have hx2 : Blk W2 vb 47 #[.string (st x.1), .string (st x.2)] := by
    rw [← hW2]
    unfold Blk at hx ⊢
    show (w.heap.modify g _)[vb]? = _
    rw [Array.getElem?_modify, if_neg (Ne.symm hne)]
    exact hx
  rw [hW2] at hc1
  obtain ⟨row2, hrow2⟩ : ∃ row2, (row1.toList.take (i * 2) ++ ccs [x] ++ row1.toList.drop (i * 2 + (ccs [x]).length)).toArray = row2 := ⟨_, rfl⟩
  have hc2 := fun ty dc => run_copy_rowN Tryd.prog W2 22 22 ty 47 g (i * 2) (n + 1 - i) dc ⟨vb, 0, none⟩ 1 1 2 row1 47 (ccs [x]) Tryd.underlying22 celSize hg2 (by rw [show Nat.min 1 (n + 1 - i) = 1 from Nat.min_eq_left (by omega)]; rfl)
    (fun j v hj => by rw [Addr.add_lit]; obtain ⟨_, _, _, hv, _, _, _, h6⟩ := Sl.celBlk (x := x) hx2; obtain ⟨b', o', ha, _, hcell⟩ := h6 (by omega); cases hv; cases ha; exact hcell j v hj)
    (by rw [hX, hr1s]; omega) (one_cel x)
  rw [hrow2, show Nat.min 1 (n + 1 - i) = 1 from Nat.min_eq_left (by omega)] at hc2
  obtain ⟨W3, hW3⟩ : ∃ W3, W2.setRow g row2 = W3 := ⟨_, rfl⟩
  have hb3 : Below B w W3 := by rw [← hW3]; exact below_setRow hb2 hBg _
  have hg3 : W3.heap[g]? = some (.cells row2 47 (0, 0)) := by rw [← hW3]; exact setRow_heap W2 _ _ _ _ _ hg2
  rw [hW3] at hc2
  have hne1 : ¬ (cap = i) := by omega
  have hne3 : ¬ (cap = i + 1) := by omega
  have hz2 : ¬ ((i : Int) = (n : Int)) := by omega
  have hw2 : IntKind.i64.wrap ((n : Int) + 1) = (n : Int) + 1 := by rw [IntKind.wrap_i64]; omega
  have hw3 : IntKind.i64.wrap ((i : Int) + 1) = (i : Int) + 1 := by rw [IntKind.wrap_i64]; omega
  have hgi : ¬ (cap : Int) < (n : Int) + 1 := by omega
  have hgj : (n : Int) + 1 ≤ (cap : Int) := by omega
  have hnn : (0 : Int) ≤ (n : Int) + 1 := by omega
  have htm : ((n : Int) + 1).toNat = n + 1 := by omega
  have hii : (i : Int) ≤ (cap : Int) := by omega
  have hij : (i : Int) ≤ (n : Int) := by omega
  have hik : (i : Int) ≤ (n : Int) + 1 := by omega
  have hb0 : (0 : Int) ≤ (i : Int) + 1 := by omega
  have hbn : (i : Int) + 1 ≤ (n : Int) + 1 := by omega
  have htn : ((i : Int) + 1).toNat = i + 1 := by omega
  have hbk : i + 1 ≤ n + 1 := by omega
  have hbi : i ≤ n + 1 := by omega
  clear hcelg
  go_enter Tryd.func58, Tryd.ntmps58
  go_wp2_with (simp only [hov])
  go_region_law (fail)
  go_wp2_with fail
  go_ret
  have hlen : (l.take i ++ x :: l.drop i).length = n + 1 := by rw [List.length_append, List.length_cons, List.length_take, List.length_drop]; omega
  have hsp : ccs (l.take i ++ x :: l.drop i) = ccs (l.take i) ++ ccs [x] ++ ccs (l.drop i) := by rw [show l.take i ++ x :: l.drop i = l.take i ++ ([x] ++ l.drop i) from rfl, ccs_append, ccs_append, List.append_assoc]
  refine ⟨some ⟨g, 0, none⟩, cap, rfl, ?_, hb3⟩
  unfold Co
  rw [hlen]
  refine ⟨by rw [ccs_len, hlen], .inr ⟨g, cap, row2, rfl, hBg, hg3, hroom, hcm, ?_, ?_⟩⟩
  · rw [← hrow2]
    simp only [List.size_toArray, List.length_append, List.length_take, List.length_drop, Array.length_toList, hX]
    omega
  · have hrt : cur.toList.take (i * 2) = ccs (l.take i) := by
      have h9 := congrArg (List.take (i * 2)) hct
      rw [List.take_take, Nat.min_eq_left (by omega), ccs_take] at h9
      exact h9
    have h2 := row_two' cur.toList (ccs [x]) (ccs (l.drop i)) (i * 2) (by rw [hX, hdl, Array.length_toList, hcs]; omega)
    rw [hX, hdl, show i * 2 + 2 = (i + 1) * 2 by omega, show (i + 1) * 2 + (n - i) * 2 = (n + 1) * 2 by omega] at h2
    rw [hsp, ← hrt, ← h2, ← hrow2, ← hrow1, hdl, hX]
    simp only [show i * 2 + 2 = (i + 1) * 2 by omega, show (i + 1) * 2 + (n - i) * 2 = (n + 1) * 2 by omega]

/-- slices.Insert(l, i, x): a cell more. -/
theorem pinsert_any (B : Nat) (A : Option Addr) (c : Nat) (l : List Cel) (x : Cel) (i vb : Nat) (w : World) (ho : Co w B (.slice A l.length c) l) (hx : Blk w vb 47 #[.string (st x.1), .string (st x.2)]) (hne : ∀ g, A = some ⟨g, 0, none⟩ → vb ≠ g) (hi : i ≤ l.length) (hl : l.length ≤ 1000000) (hB : B ≤ w.heap.size) :
    Calls Tryd.prog 58 #[.slice A l.length c, .int .i64 (i : Int), .slice (some ⟨vb, 0, none⟩) 1 1] w fun e w' => ∃ A' c', e = .returned (.slice A' (l.length + 1) c') ∧ Co w' B (.slice A' (l.length + 1) c') (l.take i ++ x :: l.drop i) ∧ Below B w w' := by
  by_cases he : i = l.length
  · subst he
    rw [List.take_length, List.drop_length]
    exact pinsert_end B A c l x vb w ho hx hl hB
  · rcases ho.2 with ⟨h2, h3⟩ | ⟨g, cap, cur, h2, hBg, hg, hnc, hcm, hcs, hct⟩
    · omega
    · injection h2 with h4 _ h5
      subst h4 h5
      by_cases hr : c < l.length + 1
      · exact pinsert_grow B g c cur l x i vb w hBg hg hnc hcm hcs hct hx (by omega) hl hB hr
      · exact pinsert_room B g c cur l x i vb w hBg hg hcm hcs hct hx (hne g rfl) (by omega) hl (by omega)
end Go.Proofs.YtlidbgidbpaenaaDoor
