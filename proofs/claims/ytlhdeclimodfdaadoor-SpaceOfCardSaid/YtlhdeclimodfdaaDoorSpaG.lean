/- The document's answer of layer 9: New, Has, set, Do. -/
import Derived.Test.YtlhdeclimodfdaaDoorSpaO
import Derived.Test.YtlhdeclimodfdaaDoorOw
namespace Go.Proofs.YtlhdeclimodfdaaDoor
open Go Go.RowKit
set_option linter.unusedVariables false

theorem elemBool : Elem Tryd.prog 38 4 (.bool false) 1 1 := Elem.mk' Tryd.underlying38 (by kernel_rfl) rfl (by omega)
/-- The flags l, owned. -/
def Fl (w : World) (B : Nat) (v : Value) (l : List Bool) : Prop := Ow 4 w B v (bl l)
theorem Fl.later {w w' : World} {B : Nat} {v : Value} {l : List Bool} (h : Fl w B v l) (hb : Below w.heap.size w w') : Fl w' B v l := Ow.later h hb
theorem Fl.lower {w : World} {B B' : Nat} {v : Value} {l : List Bool} (h : Fl w B v l) (hB : B' ≤ B) : Fl w B' v l := Ow.lower h hB
theorem Fl.open {w : World} {B : Nat} {v : Value} {l : List Bool} (h : Fl w B v l) (hl : 0 < l.length) : ∃ g c, v = .slice (some ⟨g, 0, none⟩) l.length c ∧ B ≤ g ∧ g < w.heap.size ∧ (∀ j, j < l.length → w.cell? ⟨g, j, none⟩ = some (.bool (l.getD j false))) ∧ ∀ j, w.frozen? ⟨g, j, none⟩ = false := by
  obtain ⟨g, c, h1, h2, h3, h4, h5⟩ := Ow.open h (by rw [bl_len]; exact hl)
  rw [bl_len] at h1
  exact ⟨g, c, h1, h2, h3, fun j hj => by rw [h4 j (by rw [bl_len]; exact hj), bl_at], h5⟩

theorem refNew_bad (n : Int) (w : World) (h : n < 1 ∨ 256 < n) :
    Calls Tryd.prog 14 #[.int .i64 n] w fun e w' => e = .returned (.tuple #[.slice none 0 0, .int .i64 90]) ∧ w = w' := by
  rcases h with h | h
  · go_enter Tryd.func14, Tryd.ntmps14
    go_wp2_with fail
    go_ret2
    exact ⟨rfl, rfl⟩
  · have h0 : ¬ n < 1 := by omega
    go_enter Tryd.func14, Tryd.ntmps14
    go_wp2_with fail
    go_ret2
    exact ⟨rfl, rfl⟩
theorem made_false (n : Nat) : (madeCells (Value.bool false).cells (n * 1)).toList = bl (List.replicate n false) := by
  unfold madeCells bl
  rw [Nat.mul_one]
  apply List.ext_getElem?
  intro j
  by_cases hj : j < n
  · simp [Value.cells, hj, Nat.mod_one]
  · simp [Value.cells, hj]
theorem refNew_ok (n : Nat) (w : World) (h1 : 1 ≤ n) (h2 : n ≤ 256) :
    Calls Tryd.prog 14 #[.int .i64 n] w fun e w' => ∃ v, e = .returned (.tuple #[v, .int .i64 0]) ∧ Fl w' w.heap.size v (List.replicate n false) ∧ Below w.heap.size w w' := by
  obtain ⟨i, hi, hz0, hz1, hz2⟩ := elemBool.info
  go_enter Tryd.func14, Tryd.ntmps14
  go_wp2_with (at_make; refine wpList_make_full _ rfl _ _ 38 rfl w.heap.size 4 i (.bool false) 1 Tryd.underlying38 hi hz0 hz1 _ _ _ _ n rfl rfl rfl rfl (by rw [hz2]; omega) (by unfold maxLen; omega) (Nat.le_refl _) ?_; intro w1 hown hgrow)
  go_ret2
  refine ⟨_, rfl, ?_, (Below.refl _ _).grown hgrow (Nat.le_refl _) (fun k hk => by cases hk)⟩
  rw [made_false] at hown
  unfold Fl Ow
  rw [bl_len, List.length_replicate]
  exact hown

theorem refHas_any (B : Nat) (v : Value) (l : List Bool) (p : Int) (w : World) (hf : Fl w B v l) (hl : 0 < l.length) (hl2 : l.length ≤ 256) (hp : -9223372036854775808 ≤ p ∧ p ≤ 9223372036854775807) :
    Calls Tryd.prog 26 #[v, .int .i64 p] w fun e w' => e = .returned (.bool (hasB l p)) ∧ w = w' := by
  obtain ⟨g, c, rfl, _, _, hc, _⟩ := hf.open hl
  by_cases h0 : 0 ≤ p
  · by_cases h1 : p < (l.length : Int)
    · obtain ⟨k, rfl⟩ : ∃ k : Nat, p = (k : Int) := ⟨p.toNat, by omega⟩
      have hk := hc k (by omega)
      have HH := Lib.hid (hasB_nat l k)
      clear hc hf
      go_enter Tryd.func26, Tryd.ntmps26
      go_wp2_with fail
      go_ret
      rw [HH.out]
      exact ⟨rfl, rfl⟩
    · have HH : Hid (hasB l p = false) := by unfold hasB; simp [h1, Hid]
      clear hc hf
      go_enter Tryd.func26, Tryd.ntmps26
      go_wp2_with fail
      go_ret
      rw [HH.out]
      exact ⟨rfl, rfl⟩
  · have HH : Hid (hasB l p = false) := by unfold hasB; simp [h0, Hid]
    clear hc hf
    go_enter Tryd.func26, Tryd.ntmps26
    go_wp2_with fail
    go_ret
    rw [HH.out]
    exact ⟨rfl, rfl⟩

theorem own_open {w1 : World} {B k c : Nat} {A : Option Addr} {l : List Bool} (h : w1.ownsRow B 4 1 (.slice A k c) (0 + l.length) ([] ++ bl l)) (hl : 0 < l.length) :
    ∃ g, A = some ⟨g, 0, none⟩ ∧ k = l.length ∧ B ≤ g ∧ (∀ j, w1.frozen? ⟨g, j, none⟩ = false) ∧ (∀ j, j < l.length → w1.cell? ⟨g, j, none⟩ = some (.bool (l.getD j false))) ∧ Hid (Fl w1 B (.slice (some ⟨g, 0, none⟩) l.length c) l) := by
  have hf : Fl w1 B (.slice A k c) l := by unfold Fl Ow; rw [bl_len]; simpa using h
  obtain ⟨g1, c1', hv, hB1, _, hcl, hfz⟩ := hf.open hl
  injection hv with hA hk1 hc1
  subst hA hk1 hc1
  exact ⟨g1, rfl, rfl, hB1, hfz, hcl, hf⟩
theorem refSet_any (B : Nat) (v : Value) (l : List Bool) (k : Nat) (b : Bool) (w : World) (hf : Fl w B v l) (hk : k < l.length) (hl2 : l.length ≤ 256) :
    Calls Tryd.prog 25 #[v, .int .i64 k, .bool b] w fun e w' => ∃ v', e = .returned v' ∧ Fl w' w.heap.size v' (l.set k b) ∧ Below w.heap.size w w' := by
  have hs := Ow.sl hf
  rw [bl_len] at hs
  have HS := Lib.hid hs
  clear hs
  obtain ⟨g, c, rfl, _⟩ := hf.open (by omega)
  clear hf
  go_enter Tryd.func25, Tryd.ntmps25
  have i0 : (0 : Int) ≤ (k : Int) := by omega
  have i1 : (k : Int) < (l.length : Int) := by omega
  have hl0 : 0 < l.length := by omega
  go_wp2_with (at_builtin; go_loud (refine wpList_append_sl _ rfl (.tmp 7) (.tmp 8) elemBool rfl (Ow.made _ _ w.heap.size (Nat.le_refl _) (by simp)) (Sl.alloc1 HS.out _) rfl rfl (bl_one _) (by simp [maxLen]; omega) (by simp; omega) (by simp) ?_); intro A1 k1 c1 w1 hown1 hg1 hat1; obtain ⟨g1, rfl, rfl, hB1, hfz, hcl, hf1⟩ := own_open hown1 hl0; have fz := hfz k; have fc := hcl k hk; clear hown1 hfz hcl)
  have hbl1 : Below w.heap.size w w1 := below_grown_own ((Below.refl _ _).alloc (Nat.le_refl _) _) (Ow.made _ _ w.heap.size (Nat.le_refl _) (by simp)) hg1 (by simp)
  have hst : Fl (w1.setCell ⟨g1, k, none⟩ (.bool b)) w.heap.size (.slice (some ⟨g1, 0, none⟩) l.length c1) (l.set k b) := by
    unfold Fl; rw [← bl_set]; exact Ow.store hf1.out k (.bool b)
  have hbl2 := hbl1.setCell (p := ⟨g1, k, none⟩) hB1 (.bool b)
  go_ret
  exact ⟨_, rfl, hst, hbl2⟩

theorem flip_true {l : List Bool} {q : Nat} (h : l.getD q false = false) : l.set q true = flipAt l q := by unfold flipAt; rw [h]; rfl
theorem flip_false {l : List Bool} {q : Nat} (h : l.getD q false = true) : l.set q false = flipAt l q := by unfold flipAt; rw [h]; rfl
theorem claimB_no {l : List Bool} {p : Int} (h : p < 0 ∨ (l.length : Int) ≤ p ∨ hasB l p = true) : claimB l p = (l, 92) := by unfold claimB; rw [if_pos h]

set_option maxHeartbeats 1000000 in
theorem refDo_any (B : Nat) (v : Value) (l : List Bool) (k p : Int) (w : World) (hf0 : Fl w B v l) (hl : 0 < l.length) (hl2 : l.length ≤ 256) (hB : B ≤ w.heap.size) (hk : -9223372036854775808 ≤ k ∧ k ≤ 9223372036854775807) (hp : -9223372036854775808 ≤ p ∧ p ≤ 9223372036854775807) :
    Calls Tryd.prog 15 #[v, .agg #[.int .i64 k, .int .i64 p]] w fun e w' => ∃ v', e = .returned (.tuple #[v', .int .i64 ((doB l k p).2.1 : Int), .int .i64 ((doB l k p).2.2 : Int)]) ∧ Fl w' B v' (doB l k p).1 ∧ Below w.heap.size w w' := by
  have q0 := Lib.hid ((Below.refl w.heap.size w).alloc (Nat.le_refl _) (.cells #[.int .i64 k, .int .i64 p] 32))
  have hf := hf0.later q0.out
  have HF := Lib.hid hf
  obtain ⟨g, c, rfl, hBg, hgl, hc, _⟩ := hf.open hl
  have hsz := q0.out.size
  clear hf hf0
  by_cases h0 : k = 0
  · subst h0
    have HD : Hid (doB l 0 p = takeB l) := by unfold doB; rw [if_pos rfl]; rfl
    go_enter Tryd.func15, Tryd.ntmps15
    go_wp2_with fail
    go_loop [7] (fun iv => ∃ i : Nat, iv = .int .i64 (i : Int) ∧ i ≤ l.length ∧ allSet l i) (fun iv => l.length - (intOf iv).toNat)
    case atStart => exact ⟨0, rfl, by omega, fun j hj => by omega⟩
    case round =>
      obtain ⟨i, rfl, hi, hall⟩ := hrel
      by_cases hil : i < l.length
      · have hci := hc i hil
        have hii : (i : Int) < (l.length : Int) := by omega
        cases hgt : l.getD i false with
        | false =>
          rw [hgt] at hci
          have HT : Hid (takeB l = (flipAt l i, i, 0)) := by unfold takeB; rw [firstFree_some hil hgt hall]; rfl
          clear hc hall
          go_wp2_with fail
          refine (refSet_any B _ l i true _ HF.out hil hl2).mono ?_
          rintro e w2 ⟨v', rfl, hf2, hbl2⟩
          rw [flip_true hgt] at hf2
          go_wp2_with fail
          go_ret3
          rw [HD.out, HT.out]
          exact ⟨_, rfl, hf2.lower (by omega), below_chain q0.out hbl2⟩
        | true =>
          rw [hgt] at hci
          have hall2 : allSet l (i + 1) := fun j hj hjl => by
            by_cases e : j = i
            · subst e; exact hgt
            · exact hall j (by omega) hjl
          clear hall hc
          go_wp2_with fail
          go_round
          case rel => exact ⟨i + 1, by go_num, by omega, hall2⟩
          case measure => simp [intOf]; omega
      · obtain rfl : i = l.length := by omega
        have HT : Hid (takeB l = (l, 0, 91)) := by unfold takeB; rw [firstFree_none hall]; rfl
        clear hc hall
        go_wp2_with fail
        go_ret3
        rw [HD.out, HT.out]
        exact ⟨_, rfl, HF.out, q0.out⟩
  · have t0 : (k == 0) = false := by rw [beq_eq_false_iff_ne]; exact h0
    by_cases h1 : k = 1
    · subst h1
      have HD : Hid (doB l 1 p = ((claimB l p).1, 0, (claimB l p).2)) := by unfold doB; rw [if_neg (by decide), if_pos rfl]; rfl
      clear h0 t0
      have no : claimB l p = (l, 92) → (p < 0 ∨ (¬ p < 0 ∧ (l.length : Int) ≤ p) ∨ ∃ q : Nat, p = (q : Int) ∧ q < l.length ∧ l.getD q false = true) → Calls Tryd.prog 15 #[.slice (some ⟨g, 0, none⟩) l.length c, .agg #[.int .i64 1, .int .i64 p]] w fun e w' => ∃ v', e = .returned (.tuple #[v', .int .i64 ((doB l 1 p).2.1 : Int), .int .i64 ((doB l 1 p).2.2 : Int)]) ∧ Fl w' B v' (doB l 1 p).1 ∧ Below w.heap.size w w' := by
        intro hcl hcase
        have HC := Lib.hid hcl
        clear hcl
        rcases hcase with h | ⟨h, h'⟩ | ⟨q, rfl, hq, hgt⟩
        · clear hc
          go_enter Tryd.func15, Tryd.ntmps15
          go_wp2_with fail
          go_ret3
          rw [HD.out, HC.out]
          exact ⟨_, rfl, HF.out, q0.out⟩
        · clear hc
          go_enter Tryd.func15, Tryd.ntmps15
          go_wp2_with fail
          go_ret3
          rw [HD.out, HC.out]
          exact ⟨_, rfl, HF.out, q0.out⟩
        · have hcq := hc q hq
          rw [hgt] at hcq
          have i0 : (0 : Int) ≤ (q : Int) := by omega
          have i1 : (q : Int) < (l.length : Int) := by omega
          clear hc hgt
          go_enter Tryd.func15, Tryd.ntmps15
          go_wp2_with fail
          go_ret3
          rw [HD.out, HC.out]
          exact ⟨_, rfl, HF.out, q0.out⟩
      by_cases hcase : p < 0 ∨ (l.length : Int) ≤ p ∨ hasB l p = true
      · refine no (claimB_no hcase) ?_
        by_cases hp0 : p < 0
        · exact .inl hp0
        · by_cases hp1 : (l.length : Int) ≤ p
          · exact .inr (.inl ⟨hp0, hp1⟩)
          · have h2 : hasB l p = true := by rcases hcase with h | h | h; exact absurd h hp0; exact absurd h hp1; exact h
            obtain ⟨q, rfl⟩ : ∃ q : Nat, p = (q : Int) := ⟨p.toNat, by omega⟩
            rw [hasB_nat] at h2
            exact .inr (.inr ⟨q, rfl, by omega, h2⟩)
      · rcases claimB_cases l p with ⟨q, rfl, hq, hgt, hcl⟩ | hcl
        · have HC := Lib.hid hcl
          have hcq := hc q hq
          rw [hgt] at hcq
          have i0 : (0 : Int) ≤ (q : Int) := by omega
          have i1 : (q : Int) < (l.length : Int) := by omega
          clear hc no hcase hcl
          go_enter Tryd.func15, Tryd.ntmps15
          go_wp2_with fail
          refine (refSet_any B _ l q true _ HF.out hq hl2).mono ?_
          rintro e w2 ⟨v', rfl, hf2, hbl2⟩
          rw [flip_true hgt] at hf2
          go_wp2_with fail
          go_ret3
          rw [HD.out, HC.out]
          exact ⟨_, rfl, hf2.lower (by omega), below_chain q0.out hbl2⟩
        · exfalso
          unfold claimB at hcl
          rw [if_neg hcase] at hcl
          injection hcl with _ h2
          cases h2
    · have t1 : (k == 1) = false := by rw [beq_eq_false_iff_ne]; exact h1
      clear hc
      by_cases h2 : k = 2
      · subst h2
        have HD : Hid (doB l 2 p = ((freeB l p).1, 0, (freeB l p).2)) := by unfold doB; rw [if_neg (by decide), if_neg (by decide), if_pos rfl]; rfl
        clear h0 t0 h1 t1
        go_enter Tryd.func15, Tryd.ntmps15
        go_wp2_with fail
        refine (refHas_any B _ l p _ HF.out hl hl2 hp).mono ?_
        rintro e w2 ⟨rfl, rfl⟩
        rcases hasB_cases l p with ⟨q, rfl, hq, hgt, hh⟩ | hh
        · have HC : Hid (freeB l (q : Int) = (flipAt l q, 0)) := by unfold freeB; rw [if_pos hh]; rfl
          rw [hh]
          go_wp2_with fail
          refine (refSet_any B _ l q false _ HF.out hq hl2).mono ?_
          rintro e w2 ⟨v', rfl, hf2, hbl2⟩
          rw [flip_false hgt] at hf2
          go_wp2_with fail
          go_ret3
          rw [HD.out, HC.out]
          exact ⟨_, rfl, hf2.lower (by omega), below_chain q0.out hbl2⟩
        · have HC : Hid (freeB l p = (l, 92)) := by unfold freeB; rw [hh]; rfl
          rw [hh]
          go_wp2_with fail
          go_ret3
          rw [HD.out, HC.out]
          exact ⟨_, rfl, HF.out, q0.out⟩
      · have t2 : (k == 2) = false := by rw [beq_eq_false_iff_ne]; exact h2
        have HD : Hid (doB l k p = (l, 0, 0)) := by unfold doB; rw [if_neg h0, if_neg h1, if_neg h2]; rfl
        clear h0 h1 h2
        go_enter Tryd.func15, Tryd.ntmps15
        go_wp2_with fail
        go_ret3
        rw [HD.out]
        exact ⟨_, rfl, HF.out, q0.out⟩
end Go.Proofs.YtlhdeclimodfdaaDoor
