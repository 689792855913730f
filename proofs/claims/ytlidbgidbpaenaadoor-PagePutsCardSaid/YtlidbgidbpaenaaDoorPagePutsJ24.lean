/- What the proof of PagePuts needs, part 24. -/
import Derived.Test.YtlidbgidbpaenaaDoorPagePutsJ23
import Derived.Deep.RegionLaw
import Derived.Deep.Cut
import Derived.Deep.DeepCutAuto

namespace Go.Proofs.YtlidbgidbpaenaaDoor
open Go Go.RowKit
set_option linter.unusedVariables false

theorem celSize : (Tryd.prog.info? 47).map (·.size) = some 2 := by
  obtain ⟨i0, hi, hz, hsz, hby⟩ := elemCel.info
  rw [hi]
  simp [hsz]
theorem one_cel (x : Cel) : ∀ y ∈ ccs [x], y.oneCell' = true := ccs_one [x]
/-- A cell alone in a block. -/
theorem Sl.celBlk {w : World} {vb : Nat} {x : Cel} (h : Blk w vb 47 #[.string (st x.1), .string (st x.2)]) : Sl (fun b => b = vb) w 2 (.slice (some ⟨vb, 0, none⟩) 1 1) 1 (ccs [x]) := by
  refine ⟨rfl, some ⟨vb, 0, none⟩, 1, rfl, by omega, by simp [maxLen], (fun h => by cases h), fun _ => ⟨vb, 0, rfl, rfl, fun j u hu => ?_⟩⟩
  rcases j with _ | _ | j
  · cases hu; exact h.cell 0
  · cases hu; exact h.cell 1
  · simp [ccs] at hu

set_option maxHeartbeats 4000000 in
set_option maxRecDepth 100000 in
theorem pinsert_end (B : Nat) (A : Option Addr) (c : Nat) (l : List Cel) (x : Cel) (vb : Nat) (w : World) (ho : Co w B (.slice A l.length c) l) (hx : Blk w vb 47 #[.string (st x.1), .string (st x.2)]) (hl : l.length ≤ 1000000) (hB : B ≤ w.heap.size) :
    Calls Tryd.prog 58 #[.slice A l.length c, .int .i64 (l.length : Int), .slice (some ⟨vb, 0, none⟩) 1 1] w fun e w' => ∃ A' c', e = .returned (.slice A' (l.length + 1) c') ∧ Co w' B (.slice A' (l.length + 1) c') (l ++ [x]) ∧ Below B w w' := by
  have HO := Lib.hid ho
  have HX := Lib.hid (Sl.celBlk hx)
  obtain ⟨_, A', c', hv, hlc, hcm, hA0, _⟩ := ho.cs
  cases hv
  have hM1 : Hid (l.length + 1 ≤ maxLen) := by simp only [Hid, maxLen]; omega
  have hM2 : Hid ((l.length + 1) * 32 ≤ 140737488355328) := by rw [Hid]; omega
  have HB := Lib.hid hB
  clear ho hx hB hA0
  go_enter Tryd.func58, Tryd.ntmps58
  go_wp2_with (at_builtin; refine wpList_append_sl _ rfl (.tmp 23) (.tmp 24) elemCel rfl HO.out HX.out rfl rfl (one_cel x) hM1.out hM2.out HB.out ?_; intro A5 k5 c5 w5 hown5 hg5 hat5)
  all_goals
    obtain rfl := own_len hown5
    go_ret
    refine ⟨A5, c5, rfl, ?_, below_grown_own (Below.refl _ _) HO.out hg5 HB.out⟩
    unfold Co
    rw [List.length_append, List.length_singleton, ccs_append]
    exact hown5

set_option maxHeartbeats 8000000 in
set_option maxRecDepth 100000 in
/-- There is no room: a new row. -/
theorem pinsert_grow (B g cap : Nat) (cur : Array Value) (l : List Cel) (x : Cel) (i vb : Nat) (w : World) (hBg : B ≤ g) (hg : w.heap[g]? = some (.cells cur 47 (0, 0))) (hcl : l.length ≤ cap) (hcm : cap ≤ maxLen) (hcs : cur.size = cap * 2) (hct : cur.toList.take (l.length * 2) = ccs l)
    (hx : Blk w vb 47 #[.string (st x.1), .string (st x.2)]) (hi : i < l.length) (hl : l.length ≤ 1000000) (hB : B ≤ w.heap.size) (hroom : cap < l.length + 1) :
    Calls Tryd.prog 58 #[.slice (some ⟨g, 0, none⟩) l.length cap, .int .i64 (i : Int), .slice (some ⟨vb, 0, none⟩) 1 1] w fun e w' => ∃ A' c', e = .returned (.slice A' (l.length + 1) c') ∧ Co w' B (.slice A' (l.length + 1) c') (l.take i ++ x :: l.drop i) ∧ Below B w w' := by
  obtain ⟨n, hn⟩ : ∃ n, l.length = n := ⟨_, rfl⟩
  rw [hn] at hcl hct hi hl hroom ⊢
  obtain ⟨i0, hinf, hz, hsz, hby⟩ := elemCel.info
  have hcelg : ∀ j v, (ccs l)[j]? = some v → w.cell? ⟨g, j, none⟩ = some v := fun j v hj => by
    rw [← hct] at hj
    have h1 := (List.getElem?_eq_some_iff.1 hj).1
    rw [List.length_take, Array.length_toList] at h1
    rw [List.getElem?_take_of_lt (by omega), Array.getElem?_toList] at hj
    simp [World.cell?, hg, hj]
  have hold : (Builtin.firstCells i0.size i (.slice (some ⟨g, 0, none⟩) i cap)).run Tryd.prog w.drew = .ok (ccs (l.take i)).toArray w.drew := by
    rw [hsz]
    refine run_firstCells_some w.drew 2 i ⟨g, 0, none⟩ i cap (ccs (l.take i)) (by rw [ccs_len, List.length_take]; omega) (fun j v hj => ?_)
    rw [Addr.add_lit, Nat.zero_add]
    refine hcelg j v ?_
    rw [← ccs_take] at hj
    have h1 := (List.getElem?_eq_some_iff.1 hj).1
    rw [List.length_take] at h1
    rwa [List.getElem?_take_of_lt (by omega)] at hj
  have hap := fun ty => run_append_grow_zeros Tryd.prog w 22 3 ty 47 i0 (.agg #[.string ⟨#[]⟩, .string ⟨#[]⟩]) .i64 .i64 Tryd.underlying22 Tryd.underlying3 hinf hz (some ⟨g, 0, none⟩) i cap (ccs (l.take i)) hold (n + 1 - i) (by omega) (by omega) (by omega) (by omega) (by rw [hby]; omega) (by rw [hby]; exact growslice_fits (by omega) (by omega))
  have hni : (n : Int) + 1 - (i : Int) = ((n + 1 - i : Nat) : Int) := by omega
  have hin : i + (n + 1 - i) = n + 1 := by omega
  rw [hin] at hap
  obtain ⟨cap', hcap'⟩ : ∃ cap', grownCap w (n + 1) cap 47 = cap' := ⟨_, rfl⟩
  have hge : n + 1 ≤ cap' := by rw [← hcap']; exact grownCap_ge w (n + 1) cap 47
  have hlm : cap' ≤ maxLen := by rw [← hcap']; exact grownCap_le_maxLen w (n + 1) cap 47 (by simp only [maxLen]; omega)
  rw [hcap'] at hap
  obtain ⟨row, hrow⟩ : ∃ row, (ccs (l.take i)).toArray ++ Builtin.zeroCells (Value.agg #[.string ⟨#[]⟩, .string ⟨#[]⟩]).cells (n + 1 - i) ++ Builtin.zeroCells (Value.agg #[.string ⟨#[]⟩, .string ⟨#[]⟩]).cells (cap' - (n + 1)) = row := ⟨_, rfl⟩
  have hrs : row.size = cap' * 2 := by
    rw [← hrow]
    simp only [Builtin.zeroCells, Array.size_append, Array.size_map, Array.size_range, List.size_toArray, ccs_len, List.length_take, hn]
    show min i n * 2 + (n + 1 - i) * 2 + (cap' - (n + 1)) * 2 = cap' * 2
    rw [Nat.min_eq_left (by omega)]
    omega
  have hrt : row.toList.take (i * 2) = ccs (l.take i) := by
    rw [← hrow, Array.toList_append, Array.toList_append, List.append_assoc, List.take_append_of_le_length (by simp only [ccs_len, List.length_take]; omega), List.take_of_length_le (by simp only [ccs_len, List.length_take]; omega)]
  rw [hrow] at hap
  have hne1 : ¬ (cap = i) := by omega
  have hne2 : ¬ (cap' = i) := by omega
  have hne3 : ¬ (cap' = i + 1) := by omega
  have hz2 : ¬ ((i : Int) = (n : Int)) := by omega
  have hw1 : IntKind.i64.wrap ((n : Int) + 1 - (i : Int)) = ((n + 1 - i : Nat) : Int) := by rw [hni, IntKind.wrap_i64]; omega
  have hw2 : IntKind.i64.wrap ((n : Int) + 1) = (n : Int) + 1 := by rw [IntKind.wrap_i64]; omega
  have hw3 : IntKind.i64.wrap ((i : Int) + 1) = (i : Int) + 1 := by rw [IntKind.wrap_i64]; omega
  have hgi : (cap : Int) < (n : Int) + 1 := by omega
  have hii : (i : Int) ≤ (cap : Int) := by omega
  have hij : (i : Int) ≤ (n : Int) := by omega
  have hx0 := hx.cell 0
  have hvw : vb < w.heap.size := hx.lt
  have hgw : g < w.heap.size := (Array.getElem?_eq_some_iff.1 hg).1
  obtain ⟨row1, hrow1⟩ : ∃ row1, (row.toList.take (i * 2) ++ ccs [x] ++ row.toList.drop (i * 2 + (ccs [x]).length)).toArray = row1 := ⟨_, rfl⟩
  have hr1s : row1.size = cap' * 2 := by
    rw [← hrow1]
    simp only [List.size_toArray, List.length_append, List.length_take, List.length_drop, Array.length_toList, ccs_len, List.length_singleton]
    omega
  obtain ⟨W1, hW1⟩ : ∃ W1, w.drew.alloc (.cells row 47) = W1 := ⟨_, rfl⟩
  have hb1 : Below w.heap.size w W1 := by rw [← hW1]; exact (Below.refl _ _).drew.alloc (Nat.le_refl _) _
  have hg1 : W1.heap[w.heap.size]? = some (.cells row 47 (0, 0)) := by rw [← hW1]; show (w.heap.push _)[w.heap.size]? = _; simp
  have hc1 := fun ty dc => run_copy_rowN Tryd.prog W1 22 22 ty 47 w.heap.size (i * 2) (n + 1 - i) dc ⟨vb, 0, none⟩ 1 1 2 row 47 (ccs [x]) Tryd.underlying22 celSize hg1 (by rw [show Nat.min 1 (n + 1 - i) = 1 from Nat.min_eq_left (by omega)]; rfl)
    (fun j v hj => by rw [Addr.add_lit]; obtain ⟨_, _, _, hv, _, _, _, h6⟩ := Sl.celBlk (x := x) (hx.later hb1); obtain ⟨b', o', ha, _, hcell⟩ := h6 (by omega); cases hv; cases ha; exact hcell j v hj)
    (by rw [ccs_len, List.length_singleton, hrs]; omega) (one_cel x)
  rw [hrow1, show Nat.min 1 (n + 1 - i) = 1 from Nat.min_eq_left (by omega)] at hc1
  obtain ⟨W2, hW2⟩ : ∃ W2, W1.setRow w.heap.size row1 = W2 := ⟨_, rfl⟩
  have hb2 : Below w.heap.size w W2 := by rw [← hW2]; exact below_setRow hb1 (Nat.le_refl _) _
  have hg2 : W2.heap[w.heap.size]? = some (.cells row1 47 (0, 0)) := by rw [← hW2]; exact setRow_heap _ _ _ _ _ _ hg1
  rw [hW2] at hc1
  have HW1 := Lib.hid hW1
  clear hx0
  rw [hW1] at hap
  have HAP := Lib.hid hap
  clear hap hold
  go_enter Tryd.func58, Tryd.ntmps58
  go_wp2_with (at_builtin; refine Lib.wpList_append_run _ rfl (.tmp 34) (.tmp 39) _ _ rfl _ _ rfl rfl _ _ (HAP.out _) ?_)
  obtain ⟨row2, hrow2⟩ : ∃ row2, (row1.toList.take ((i + 1) * 2) ++ ccs (l.drop i) ++ row1.toList.drop ((i + 1) * 2 + (ccs (l.drop i)).length)).toArray = row2 := ⟨_, rfl⟩
  have hdl : (ccs (l.drop i)).length = (n - i) * 2 := by rw [ccs_len, List.length_drop, hn]
  have hc2 := fun ty dc sc => run_copy_rowN Tryd.prog W2.drew 22 22 ty 47 w.heap.size ((i + 1) * 2) (n - i) dc ⟨g, i * 2, none⟩ (n - i) sc 2 row1 47 (ccs (l.drop i)) Tryd.underlying22 celSize (by show W2.heap[w.heap.size]? = _; exact hg2) (by rw [show Nat.min (n - i) (n - i) = n - i from Nat.min_self _]; exact hdl)
    (fun j v hj => by
      rw [Addr.add_lit]
      have h9 : w.cell? ⟨g, i * 2 + j, none⟩ = some v := hcelg _ v (by rw [← ccs_drop, List.getElem?_drop] at hj; exact hj)
      exact cell_later hb2.drew h9)
    (by rw [hdl, hr1s]; omega) (ccs_one _)
  rw [hrow2, show Nat.min (n - i) (n - i) = n - i from Nat.min_self _] at hc2
  obtain ⟨W3, hW3⟩ : ∃ W3, W2.drew.setRow w.heap.size row2 = W3 := ⟨_, rfl⟩
  have hb3 : Below w.heap.size w W3 := by rw [← hW3]; exact below_setRow hb2.drew (Nat.le_refl _) _
  have hg3 : W3.heap[w.heap.size]? = some (.cells row2 47 (0, 0)) := by rw [← hW3]; exact setRow_heap W2.drew _ _ _ _ _ (by show W2.heap[w.heap.size]? = _; exact hg2)
  rw [hW3] at hc2
  have hb0 : (0 : Int) ≤ (i : Int) + 1 := by omega
  have hbn : (i : Int) + 1 ≤ (n : Int) + 1 := by omega
  have htn : ((i : Int) + 1).toNat = i + 1 := by omega
  have hbk : i + 1 ≤ n + 1 := by omega
  clear hcelg
  go_region_law (fail)
  go_wp2_with fail
  go_ret
  have hlen : (l.take i ++ x :: l.drop i).length = n + 1 := by rw [List.length_append, List.length_cons, List.length_take, List.length_drop]; omega
  have hsp : ccs (l.take i ++ x :: l.drop i) = ccs (l.take i) ++ ccs [x] ++ ccs (l.drop i) := by rw [show l.take i ++ x :: l.drop i = l.take i ++ ([x] ++ l.drop i) from rfl, ccs_append, ccs_append, List.append_assoc]
  refine ⟨some ⟨w.heap.size, 0, none⟩, cap', rfl, ?_, hb3.mono hB⟩
  unfold Co
  rw [hlen]
  refine ⟨by rw [ccs_len, hlen], .inr ⟨w.heap.size, cap', row2, rfl, hB, hg3, hge, hlm, ?_, ?_⟩⟩
  · rw [← hrow2]
    simp only [List.size_toArray, List.length_append, List.length_take, List.length_drop, Array.length_toList, hdl]
    omega
  · have hX : (ccs [x]).length = 2 := rfl
    have h2 := row_two row.toList (ccs [x]) (ccs (l.drop i)) (i * 2) (by rw [hX, hdl, Array.length_toList, hrs]; omega)
    rw [hX, hdl, show i * 2 + 2 = (i + 1) * 2 by omega, show (i + 1) * 2 + (n - i) * 2 = (n + 1) * 2 by omega] at h2
    rw [hsp, ← hrt, ← h2, ← hrow2, ← hrow1, hdl, hX]
    simp only [show i * 2 + 2 = (i + 1) * 2 by omega, show (i + 1) * 2 + (n - i) * 2 = (n + 1) * 2 by omega]
end Go.Proofs.YtlidbgidbpaenaaDoor
