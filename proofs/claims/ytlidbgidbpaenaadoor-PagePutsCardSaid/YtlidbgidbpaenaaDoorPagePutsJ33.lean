/- What the proof of PagePuts needs, part 33. -/
import Derived.Test.YtlidbgidbpaenaaDoorPagePutsJ25
import Derived.ArgAppend

namespace Go.Proofs.YtlidbgidbpaenaaDoor
open Go Go.RowKit
set_option linter.unusedVariables false

section
variable (P : Program)
theorem run_append_room_row (w : World) (t ty e : TypeId) (i : TypeInfo) (ht : P.underlying t = some (.slice e)) (hi : P.info? e = some i)
    (g off sLen sCap : Nat) (a : Addr) (m c : Nat) (cur : Array Value) (e' : TypeId) (news : List Value) (hl : news.length = m * i.size) (hnews : ∀ j u, news[j]? = some u → w.cell? (a.add j) = some u) (h1 : ∀ u ∈ news, u.oneCell' = true)
    (hg : w.heap[g]? = some (.cells cur e' (0, 0))) (hroom : sLen + m ≤ sCap) (hfit : off + sLen * i.size + news.length ≤ cur.size) :
    (Builtin.append_ #[t, t] ty #[.slice (some ⟨g, off, none⟩) sLen sCap, .slice (some a) m c]).run P w = .ok (.slice (some ⟨g, off, none⟩) (sLen + m) sCap) (w.setRow g (cur.toList.take (off + sLen * i.size) ++ news ++ cur.toList.drop (off + sLen * i.size + news.length)).toArray) := by
  have hfc := run_firstCells_some (P := P) w i.size m a m c news hl hnews
  have hst := run_storeCells_at P g (off + sLen * i.size) e' news 0 cur w hg (by simpa using hfit) h1
  simp only [Nat.add_zero] at hst
  simp [Builtin.append_, run_underlying ht, sizeOf, typeInfo, hi, Builtin.lenOf, hroom, hfc, Addr.add_lit, hst]
theorem run_clear_rowN (w : World) (t e ty : TypeId) (z : Value) (ht : P.underlying t = some (.slice e)) (hv : ∀ w, (zeroValue e).run P w = .ok z w) (g o n c : Nat) (cur : Array Value) (e' : TypeId) (hn : 0 < n) (zs : List Value) (hz : (Builtin.zeroCells z.cells n).toList = zs) (h1 : ∀ u ∈ zs, u.oneCell' = true)
    (hg : w.heap[g]? = some (.cells cur e' (0, 0))) (hfit : o + zs.length ≤ cur.size) :
    (Builtin.clear_ #[t] ty #[.slice (some ⟨g, o, none⟩) n c]).run P w = .ok (.tuple #[]) (w.setRow g (cur.toList.take o ++ zs ++ cur.toList.drop (o + zs.length)).toArray) := by
  have hst := run_storeCells_at P g o e' zs 0 cur w hg (by simpa using hfit) h1
  simp only [Nat.add_zero] at hst
  obtain ⟨m, rfl⟩ : ∃ m, n = m + 1 := ⟨n - 1, by omega⟩
  simp [Builtin.clear_, run_underlying ht, hv, hz, hst]
end
theorem zeroOne : (Builtin.zeroCells (Value.agg #[.string ⟨#[]⟩, .string ⟨#[]⟩]).cells 1).toList = [.string ⟨#[]⟩, .string ⟨#[]⟩] := by kernel_rfl
theorem zeroCel (w : World) : (zeroValue 47).run Tryd.prog w = .ok (.agg #[.string ⟨#[]⟩, .string ⟨#[]⟩]) w := by kernel_rfl

set_option maxHeartbeats 8000000 in
set_option maxRecDepth 100000 in
/-- slices.Delete(l, i, i + 1): a cell less. -/
theorem pdelete_any (B g cap : Nat) (cur : Array Value) (l : List Cel) (i : Nat) (w : World) (hBg : B ≤ g) (hg : w.heap[g]? = some (.cells cur 47 (0, 0))) (hcm : cap ≤ maxLen) (hcs : cur.size = cap * 2) (hct : cur.toList.take (l.length * 2) = ccs l)
    (hlc : l.length ≤ cap) (hi : i < l.length) (hl : l.length ≤ 1000000) :
    Calls Tryd.prog 59 #[.slice (some ⟨g, 0, none⟩) l.length cap, .int .i64 (i : Int), .int .i64 ((i : Int) + 1)] w fun e w' => e = .returned (.slice (some ⟨g, 0, none⟩) (l.length - 1) cap) ∧ Co w' B (.slice (some ⟨g, 0, none⟩) (l.length - 1) cap) (l.take i ++ l.drop (i + 1)) ∧ Below B w w' := by
  obtain ⟨m, hn⟩ : ∃ m, l.length = m + 1 := ⟨l.length - 1, by omega⟩
  rw [hn] at hct hlc hi hl ⊢
  rw [Nat.add_sub_cancel]
  obtain ⟨i0, hinf, hz, hsz, hby⟩ := elemCel.info
  have hcelg : ∀ j v, (ccs l)[j]? = some v → w.cell? ⟨g, j, none⟩ = some v := fun j v hj => by
    rw [← hct] at hj
    have h1 := (List.getElem?_eq_some_iff.1 hj).1
    rw [List.length_take, Array.length_toList] at h1
    rw [List.getElem?_take_of_lt (by omega), Array.getElem?_toList] at hj
    simp [World.cell?, hg, hj]
  have hdl : (ccs (l.drop (i + 1))).length = (m - i) * 2 := by rw [ccs_len, List.length_drop, hn]; congr 1; omega
  obtain ⟨row1, hrow1⟩ : ∃ row1, (cur.toList.take (0 + i * i0.size) ++ ccs (l.drop (i + 1)) ++ cur.toList.drop (0 + i * i0.size + (ccs (l.drop (i + 1))).length)).toArray = row1 := ⟨_, rfl⟩
  have hlo := fun (a : Addr) (ha : 0 < m - i → a = ⟨g, (i + 1) * 2, none⟩) => run_loadCells_list (P := Tryd.prog) w.drew a (ccs (l.drop (i + 1)))
    (fun j v hj => by
      have h1 := (List.getElem?_eq_some_iff.1 hj).1
      rw [hdl] at h1
      rw [ha (by omega), Addr.add_lit]
      exact hcelg ((i + 1) * 2 + j) v (by rw [← ccs_drop, List.getElem?_drop] at hj; exact hj))
  rw [hdl] at hlo
  unfold loadCells at hlo
  have hap := run_storeCells_at Tryd.prog g (0 + i * i0.size) 47 (ccs (l.drop (i + 1))) 0 cur w.drew (by show w.heap[g]? = _; exact hg) (by rw [hdl, hcs, hsz]; omega) (ccs_one _)
  simp only [Nat.add_zero] at hap
  have hroom : i + (m - i) ≤ cap := by omega
  have hsum : i + (m - i) = m := by omega
  rw [hrow1] at hap
  rw [hsz, Nat.zero_add] at hap
  rw [hsz, Nat.zero_add, hdl] at hrow1
  have hr1s : row1.size = cap * 2 := by
    rw [← hrow1]
    simp only [List.size_toArray, List.length_append, List.length_take, List.length_drop, Array.length_toList, hdl]
    omega
  obtain ⟨W2, hW2⟩ : ∃ W2, w.drew.setRow g row1 = W2 := ⟨_, rfl⟩
  have hb2 : Below B w W2 := by rw [← hW2]; exact below_setRow (Below.refl _ _).drew hBg _
  have hg2 : W2.heap[g]? = some (.cells row1 47 (0, 0)) := by rw [← hW2]; exact setRow_heap w.drew _ _ _ _ _ (by show w.heap[g]? = _; exact hg)
  rw [hW2] at hap
  obtain ⟨row2, hrow2⟩ : ∃ row2, (row1.toList.take (m * 2) ++ [Value.string ⟨#[]⟩, Value.string ⟨#[]⟩] ++ row1.toList.drop (m * 2 + 2)).toArray = row2 := ⟨_, rfl⟩
  have hcl := fun (W : World) (hg2 : W.heap[g]? = some (.cells row1 47 (0, 0))) (ty : TypeId) (c : Nat) => run_clear_rowN Tryd.prog W 22 47 ty _ Tryd.underlying22 zeroCel g (m * 2) 1 c row1 47 (by omega) [.string ⟨#[]⟩, .string ⟨#[]⟩] zeroOne (by simp [Value.oneCell']) hg2 (by show _ + 2 ≤ _; omega)
  simp only [List.length_cons, List.length_nil, Nat.zero_add, Nat.reduceAdd] at hcl
  rw [hrow2] at hcl
  have hcl1 := fun (ty : TypeId) (c : Nat) => hcl W2 hg2 ty c
  have hcl2 := fun (ty : TypeId) (c : Nat) => hcl W2.drew (by show W2.heap[g]? = _; exact hg2) ty c
  clear hcl
  have hw2 : IntKind.i64.wrap ((i : Int) + 1) = (i : Int) + 1 := by rw [IntKind.wrap_i64]; omega
  have hii : (i : Int) ≤ (cap : Int) := by omega
  have hij : (i : Int) + 1 ≤ (cap : Int) := by omega
  have hik : (i : Int) + 1 ≤ (m : Int) + 1 := by omega
  have hil : (i : Int) ≤ (m : Int) + 1 := by omega
  have him : (i : Int) ≤ (i : Int) + 1 := by omega
  have hb0 : (0 : Int) ≤ (i : Int) + 1 := by omega
  have htn : ((i : Int) + 1).toNat = i + 1 := by omega
  have htm : ((m : Int) + 1).toNat = m + 1 := by omega
  have hmc : (m : Int) ≤ (cap : Int) := by omega
  have hmd : (m : Int) + 1 ≤ (cap : Int) := by omega
  have hm0 : (0 : Int) ≤ (m : Int) + 1 := by omega
  have hnm : ¬ cap = m := by omega
  have hni : ¬ cap = i := by omega
  have hne : ((i : Int) == (i : Int) + 1) = false := by rw [beq_eq_false_iff_ne]; omega
  have hne2 : ¬ ((i : Int) = (i : Int) + 1) := by omega
  have hmm : (m : Int) ≤ (m : Int) + 1 := by omega
  have hmN : m ≤ cap := by omega
  have hsub : m + 1 - (i + 1) = m - i := by omega
  have hsub2 : m + 1 - m = 1 := by omega
  have hfin : Co (W2.setRow g row2) B (.slice (some ⟨g, 0, none⟩) m cap) (l.take i ++ l.drop (i + 1)) ∧ Co (W2.drew.setRow g row2) B (.slice (some ⟨g, 0, none⟩) m cap) (l.take i ++ l.drop (i + 1)) := by
    have hlen : (l.take i ++ l.drop (i + 1)).length = m := by rw [List.length_append, List.length_take, List.length_drop]; omega
    have h3 : row2.size = cap * 2 := by
      rw [← hrow2]
      simp only [List.size_toArray, List.length_append, List.length_take, List.length_drop, Array.length_toList, List.length_cons, List.length_nil]
      omega
    have h4 : row2.toList.take (m * 2) = ccs (l.take i ++ l.drop (i + 1)) := by
      have hrt : cur.toList.take (i * 2) = ccs (l.take i) := by
        have h9 := congrArg (List.take (i * 2)) hct
        rw [List.take_take, Nat.min_eq_left (by omega), ccs_take] at h9
        exact h9
      rw [← hrow2]
      simp only
      rw [List.append_assoc, List.take_left' (by rw [List.length_take, Array.length_toList]; omega), ← hrow1, hrt, ccs_append]
      simp only
      rw [List.take_left' (by rw [List.length_append, hdl, ccs_len, List.length_take]; omega)]
    unfold Co
    rw [hlen]
    refine ⟨⟨by rw [ccs_len, hlen], .inr ⟨g, cap, row2, rfl, hBg, setRow_heap _ _ _ _ _ _ hg2, by omega, hcm, h3, ?_⟩⟩, ⟨by rw [ccs_len, hlen], .inr ⟨g, cap, row2, rfl, hBg, setRow_heap _ _ _ _ _ _ (by show W2.heap[g]? = _; exact hg2), by omega, hcm, h3, ?_⟩⟩⟩
    · exact h4
    · exact h4
  have HE : Hid (m - i = 0 → W2 = w.drew) := fun h0 => by
    have h1 : ccs (l.drop (i + 1)) = [] := List.eq_nil_of_length_eq_zero (by rw [hdl, h0, Nat.zero_mul])
    rw [← hW2, ← hrow1, h1, h0, Nat.zero_mul, Nat.add_zero, List.append_nil, List.take_append_drop, Array.toArray_toList]
    exact setRow_self w.drew g cur _ _ (by show w.heap[g]? = _; exact hg)
  have HF := Lib.hid hfin
  have HB2 := Lib.hid hb2
  have HGB := Lib.hid hBg
  clear hfin hrow1 hrow2 hct hcelg hW2 hdl hsz hby
  by_cases hcap : cap = i + 1
  · obtain rfl : m = i := by omega
    subst hcap
    obtain rfl := HE.out (Nat.sub_self m)
    clear hlo hap hroom hsum
    go_enter Tryd.func59, Tryd.ntmps59
    go_wp2_with fail
    go_region_law (fail)
    go_wp2_with fail
    go_ret
    first
      | exact ⟨rfl, HF.out.1, below_setRow HB2.out HGB.out _⟩
      | exact ⟨rfl, HF.out.2, below_setRow HB2.out.drew HGB.out _⟩
  · have hlo1 := hlo ⟨g, (i + 1) * 2, none⟩ (fun _ => rfl)
    clear hlo
    have hcap2 : ¬ cap = i + 1 := hcap
    go_enter Tryd.func59, Tryd.ntmps59
    go_wp2_with fail
    go_region_law (fail)
    go_wp2_with fail
    go_ret
    first
      | exact ⟨rfl, HF.out.1, below_setRow HB2.out HGB.out _⟩
      | exact ⟨rfl, HF.out.2, below_setRow HB2.out.drew HGB.out _⟩
end Go.Proofs.YtlidbgidbpaenaaDoor
