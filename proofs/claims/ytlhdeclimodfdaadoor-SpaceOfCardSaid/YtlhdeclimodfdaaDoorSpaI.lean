/- The statements of layer 9: Taken, alike; SpacePlays. -/
import Derived.Test.YtlhdeclimodfdaaDoorSpaH
namespace Go.Proofs.YtlhdeclimodfdaaDoor
open Go Go.RowKit
set_option linter.unusedVariables false

theorem elemInt9 : Elem Tryd.prog 61 3 (.int .i64 0) 1 8 := Elem.mk' Tryd.underlying61 (by kernel_rfl) rfl (by omega)
theorem Sl.new1 (w : World) (e : TypeId) (u : Value) {g : Nat} (hg : g = w.heap.size) : Sl (fun b => b = w.heap.size) (w.alloc (.cells #[u] e)) 1 (.slice (some ⟨g, 0, none⟩) 1 1) 1 [u] := by
  subst hg
  refine ⟨by simp, _, 1, rfl, by simp, by simp [maxLen], (fun h => by cases h), fun _ => ⟨_, 0, rfl, rfl, fun j u' hu => ?_⟩⟩
  rcases j with _ | j
  · simp at hu
    subst hu
    rw [World.cell?_alloc_new]
    simp
  · simp at hu

set_option maxHeartbeats 1000000 in
theorem taken_any (g : Nat) (l : List Bool) (w : World) (hs : Sp w g l) :
    Calls Tryd.prog 27 #[.pointer (some ⟨g, 0, none⟩)] w fun e w' => ∃ v, e = .returned v ∧ Ow 3 w' w.heap.size v (il (takenN l l.length)) ∧ Below w.heap.size w w' := by
  have HS := Lib.hid hs
  have hc0 : w.cell? ⟨g, 0, none⟩ = some (.int .i64 (l.length : Int)) := hs.1.cell 0
  obtain ⟨hb, hl1, hl2⟩ := hs
  clear hb
  go_enter Tryd.func27, Tryd.ntmps27
  go_wp2_with fail
  go_loopw [3, 4, 9] (fun tv _ iv wr => ∃ (i : Nat) (A : Option Addr) (k c : Nat), iv = .int .i64 (i : Int) ∧ i ≤ l.length ∧ tv = .slice A k c ∧ Ow 3 wr w.heap.size (.slice A k c) (il (takenN l i)) ∧ Below w.heap.size w wr) (fun _ _ iv _ => l.length - (intOf iv).toNat)
  case atStart => exact ⟨0, none, 0, 0, rfl, by omega, rfl, Ow.nil _ _ _, Below.refl _ _⟩
  case round =>
    obtain ⟨i, A, k, c, rfl, hi, rfl, hown, hbl⟩ := hrel
    have hsz := hbl.size
    have HO := Lib.hid hown
    clear hown
    by_cases hil : i < l.length
    · have hh := hasB_nat l i
      have hsr := HS.out.later hbl
      have htl := takenN_le l i
      go_wp2_with fail
      refine (has_any g l (i : Int) wr hsr (by omega)).mono ?_
      rintro e w2 ⟨rfl, rfl⟩
      rw [hh]
      cases hgt : l.getD i false with
      | true =>
        have HT := Lib.hid (takenN_yes hgt)
        clear hh hgt hsr
        go_wp2_with (at_builtin; go_loud (refine wpList_append_sl _ rfl (.tmp 15) (.tmp 17) elemInt9 rfl (Ow.later HO.out ((Below.refl _ _).alloc (Nat.le_refl _) _)) (Sl.new1 _ _ _ (by simp)) rfl rfl (by intro y hy; obtain rfl := List.mem_singleton.1 hy; rfl) (by simp [il_len, maxLen]; omega) (by simp [il_len]; omega) (by simp; omega) ?_); intro A1 k1 c1 w1 hown1 hg1 hat1)
        have q1 : Below w.heap.size w w1 := below_grown_own (hbl.alloc hsz _) (Ow.later HO.out ((Below.refl _ _).alloc (Nat.le_refl _) _)) hg1 (by simp; omega)
        have hO1 : Ow 3 w1 w.heap.size (.slice A1 k1 c1) (il (takenN l (i + 1))) := by
          rw [HT.out]
          unfold Ow
          rw [il_len, List.length_append]
          have e1 : il (takenN l i ++ [i]) = il (takenN l i) ++ [.int .i64 (i : Int)] := by simp [il]
          rw [e1]
          simpa [il_len] using hown1
        clear hown1 hg1 hat1
        go_roundw
        case rel => exact ⟨i + 1, A1, k1, c1, by go_num, by omega, rfl, hO1, q1⟩
        case measure => simp [intOf]; omega
      | false =>
        have HO1 := HO.out
        rw [← takenN_no hgt] at HO1
        clear hh hgt hsr
        go_wp2_with fail
        go_roundw
        case rel => exact ⟨i + 1, A, k, c, by go_num, by omega, rfl, HO1, hbl⟩
        case measure => simp [intOf]; omega
    · obtain rfl : i = l.length := by omega
      go_wp2_with fail
      go_ret
      exact ⟨_, rfl, HO.out, hbl⟩

theorem taken_next {l : List Bool} {p : Int} (h1 : -1 ≤ p) : (∃ q : Nat, p = (q : Int) ∧ q < l.length ∧ l.getD q false = true ∧ hasB l p = true ∧ (takenN l (p + 1).toNat).length = (takenN l p.toNat).length + 1) ∨ (hasB l p = false ∧ (takenN l (p + 1).toNat).length = (takenN l p.toNat).length) := by
  rcases hasB_cases l p with ⟨q, rfl, hq, hgt, hh⟩ | hh
  · refine .inl ⟨q, rfl, hq, hgt, hh, ?_⟩
    rw [show ((q : Int) + 1).toNat = q + 1 by omega, show ((q : Int)).toNat = q by omega, takenN_yes hgt]
    simp
  · refine .inr ⟨hh, ?_⟩
    by_cases h0 : p < 0
    · rw [show (p + 1).toNat = 0 by omega, show p.toNat = 0 by omega]
    · obtain ⟨q, rfl⟩ : ∃ q : Nat, p = (q : Int) := ⟨p.toNat, by omega⟩
      rw [hasB_nat] at hh
      rw [show ((q : Int) + 1).toNat = q + 1 by omega, show ((q : Int)).toNat = q by omega, takenN_no hh]

set_option maxHeartbeats 2000000 in
set_option maxRecDepth 100000 in
theorem alike_any (g B : Nat) (v : Value) (l : List Bool) (w : World) (hs : Sp w g l) (hf : Fl w B v l) :
    Calls Tryd.prog 16 #[.pointer (some ⟨g, 0, none⟩), v] w fun e w' => e = .returned (.bool true) ∧ Below w.heap.size w w' := by
  have HS := Lib.hid hs
  have HF := Lib.hid hf
  obtain ⟨_, hl1, hl2⟩ := hs
  obtain ⟨gv, cv, rfl, _⟩ := hf.open (by omega)
  clear hf
  go_enter Tryd.func16, Tryd.ntmps16
  go_wp2_with fail
  refine (taken_any g l w HS.out).mono ?_
  rintro e w1 ⟨v1, rfl, hown1, hbl1⟩
  have HS1 := Lib.hid (HS.out.later hbl1)
  have HF1 := Lib.hid (HF.out.later hbl1)
  obtain ⟨A1, c1, rfl, hcells⟩ := hown1.shape
  rw [il_len]
  have HC : Hid (∀ q, q < l.length → l.getD q false = true → ∃ gt, A1 = some ⟨gt, 0, none⟩ ∧ (takenN l q).length < (takenN l l.length).length ∧ w1.cell? ⟨gt, (takenN l q).length, none⟩ = some (.int .i64 (q : Int))) := by
    intro q hq hgt
    obtain ⟨h1, h2⟩ := takenN_at hq hgt
    obtain ⟨gt, hA, _, _, hc⟩ := hcells (by rw [il_len]; omega)
    refine ⟨gt, hA, h1, ?_⟩
    rw [hc _ (by rw [il_len]; exact h1), il_at, h2]
  have hTl : (takenN l l.length).length = l.count true := by rw [takenN_count l _ (Nat.le_refl _), List.take_length]
  have hT2 : (takenN l (l.length + 1)).length = (takenN l l.length).length := by rw [takenN_no (by simp [List.getD_eq_getElem?_getD])]
  have hTle := takenN_le l l.length
  generalize (takenN l l.length).length = T at *
  have HTL := Lib.hid hTl
  have HT2 := Lib.hid hT2
  clear hcells hown1 HS HF hTl hT2
  go_wp2_with fail
  go_loop [6, 7, 8] (fun kv iv _ => ∃ p : Int, iv = .int .i64 p ∧ -1 ≤ p ∧ p ≤ (l.length : Int) + 1 ∧ kv = .int .i64 ((takenN l p.toNat).length : Int)) (fun _ iv _ => ((l.length : Int) + 2 - intOf iv).toNat)
  case atStart => exact ⟨-1, rfl, by omega, by omega, rfl⟩
  case round =>
    obtain ⟨p, rfl, hp1, hp2, rfl⟩ := hrel
    have htl := takenN_le l p.toNat
    by_cases hpl : p ≤ (l.length : Int)
    · rcases taken_next (l := l) hp1 with ⟨q, rfl, hq, hgt, hh, hnx⟩ | ⟨hh, hnx⟩
      · have HH := Lib.hid hh
        have HN := Lib.hid hnx
        obtain ⟨gt, rfl, hlt, hcq⟩ := HC.out q hq hgt
        rw [show ((q : Int)).toNat = q from Int.toNat_natCast q] at HN htl ⊢
        generalize (takenN l q).length = kq at *
        have i0 : (0 : Int) ≤ (kq : Int) := by omega
        have i1 : (kq : Int) < (T : Int) := by omega
        clear hh hnx hgt
        go_wp2_with fail
        refine (refHas_any B _ l (q : Int) w1 HF1.out (by omega) hl2 (by omega)).mono ?_
        rintro e w2 ⟨rfl, rfl⟩
        rw [HH.out]
        go_wp2_with fail
        refine (has_any g l (q : Int) w1 HS1.out (by omega)).mono ?_
        rintro e w2 ⟨rfl, rfl⟩
        rw [HH.out]
        go_wp2_with fail
        go_round
        case rel => exact ⟨(q : Int) + 1, by go_num, by omega, by omega, by rw [HN.out]; go_num⟩
        case measure => simp [intOf]; omega
      · have HH := Lib.hid hh
        have HN := Lib.hid hnx
        generalize (takenN l p.toNat).length = kq at *
        clear hh hnx
        go_wp2_with fail
        refine (refHas_any B _ l p w1 HF1.out (by omega) hl2 (by omega)).mono ?_
        rintro e w2 ⟨rfl, rfl⟩
        rw [HH.out]
        go_wp2_with fail
        refine (has_any g l p w1 HS1.out (by omega)).mono ?_
        rintro e w2 ⟨rfl, rfl⟩
        rw [HH.out]
        go_wp2_with fail
        go_round
        case rel => exact ⟨p + 1, by go_num, by omega, by omega, by rw [HN.out]⟩
        case measure => simp [intOf]; omega
    · obtain rfl : p = (l.length : Int) + 1 := by omega
      rw [show ((l.length : Int) + 1).toNat = l.length + 1 by omega, HT2.out]
      have hw : IntKind.i64.wrap ((l.length : Int) - (T : Int)) = ((l.length - T : Nat) : Int) := by simp [IntKind.wrap, IntKind.bits, IntKind.signed]; omega
      go_wp2_with fail
      refine wp_region_grow_lit (by kernel_rfl) (by kernel_rfl) ?_
      apply Exists.intro
      apply And.intro
      · apply wpGrow_is rfl
        · intro wg hwg _
          unfold grows
          go_simp
          exact grows_value _ _
        intro K hK
        go_simp
        refine hK _ ?_
        clear hK K
        apply wpGrow_is rfl
        · intro wg hwg _
          unfold grows
          go_simp
          exact grows_value _ _
        intro K hK
        go_simp
        refine hK _ ?_
        clear hK K
        apply wpGrow_is rfl
        · intro wg hwg _
          unfold grows
          go_simp
          exact grows_value _ _
        intro K hK
        go_simp
        refine hK _ ?_
        clear hK K
        apply wpGrow_is rfl
        · intro wg hwg _
          unfold grows
          go_simp
          exact grows_value _ _
        intro K hK
        go_simp
        refine hK _ ?_
        clear hK K
        apply wpGrow_is rfl
        · intro wg hwg _
          unfold grows
          go_simp
          exact grows_value _ _
        intro K hK
        go_simp
        refine hK _ ?_
        clear hK K
        apply wpGrow_is rfl
        · intro wg hwg _
          unfold grows
          go_simp
          exact grows_value _ _
        intro K hK
        go_simp
        refine hK _ ?_
        clear hK K
        apply wpGrow_is rfl
        · intro wg hwg _
          unfold grows
          go_simp
          apply grows_same
          go_at_call 11
          exact (by have h := left_any g _ _ (HS1.out.later hwg); rw [← HTL.out] at h; exact h)
        intro K hK
        go_simp
        refine hK _ ?_
        clear hK K
        apply wpGrow_is rfl
        · intro wg hwg _
          unfold grows
          go_simp
          exact grows_value _ _
        intro K hK
        go_simp
        refine hK _ ?_
        clear hK K
        apply wpGrow_is rfl
        · intro wg hwg _
          unfold grows
          go_simp
          exact grows_value _ _
        intro K hK
        go_simp
        refine hK _ ?_
        clear hK K
        apply wpGrow_is rfl
        · intro wg hwg _
          unfold grows
          go_simp
          exact grows_value _ _
        intro K hK
        go_simp
        refine hK _ ?_
        clear hK K
        apply wpGrow_is rfl
        · intro wg hwg _
          unfold grows
          go_simp
          exact grows_value _ _
        intro K hK
        go_simp
        refine hK _ ?_
        clear hK K
        apply wpGrow_is rfl
        · intro wg hwg _
          unfold grows
          go_simp
          exact grows_value _ _
        intro K hK
        go_simp
        refine hK _ ?_
        clear hK K
        apply wpGrow_is rfl
        · intro wg hwg _
          unfold grows
          go_simp
          exact grows_value _ _
        intro K hK
        go_simp
        refine hK _ ?_
        clear hK K
        apply wpGrow_is rfl
        · intro wg hwg _
          unfold grows
          go_simp
          exact grows_value _ _
        intro K hK
        go_simp
        refine hK _ ?_
        clear hK K
        apply wpGrow_is rfl
        · intro wg hwg _
          unfold grows
          go_simp
          exact grows_value _ _
        intro K hK
        go_simp
        refine hK _ ?_
        clear hK K
        apply wpGrow_rel (V := VBs (spB l)) rfl
        · intro wg hwg _
          unfold grows
          go_simp
          exact ⟨Below.refl _ _, (spbytes_any g l wg (HS1.out.later hwg)).mono fun e w' ⟨A, k, c, he, ho, hbb⟩ => ⟨_, he, hbb, ho.bs.any⟩⟩
        intro xv7 hxv K hK
        obtain ⟨wx, _, hbx⟩ := hxv
        obtain ⟨A7, c7, rfl, _⟩ := Bs.at hbx
        go_simp
        refine hK _ ?_
        clear hK K hbx
        apply wpGrow_is rfl
        · intro wg hwg hf
          have hb6 := hf ⟨15, .data⟩ (by simp) rfl _ _ rfl
          have hcv6 := run_string_of_bs (P := Tryd.prog) hb6 tB tU tS
          clear hf hb6
          unfold grows
          go_simp
          exact grows_value _ _
        intro K hK
        go_simp
        refine hK _ ?_
        clear hK K
        apply wpGrow_is rfl
        · intro wg hwg _
          unfold grows
          go_simp
          exact grows_value _ _
        intro K hK
        go_simp
        refine hK _ ?_
        clear hK K
        apply wpGrow_is rfl
        · intro wg hwg _
          unfold grows
          go_simp
          apply grows_call
          go_at_call 28
          exact refBytes_any B _ l _ (HF1.out.later hwg) (by omega) hl2
        intro K hK
        go_simp
        refine hK _ ?_
        clear hK K
        apply wpGrow_is rfl
        · intro wg hwg _
          unfold grows
          go_simp
          exact grows_value _ _
        intro K hK
        go_simp
        refine hK _ ?_
        clear hK K
        apply wpGrow_is rfl
        · intro wg hwg _
          unfold grows
          go_simp
          exact grows_value _ _
        intro K hK
        go_simp
        refine hK _ ?_
        clear hK K
        apply wpGrow_is rfl
        · intro wg hwg _
          unfold grows
          go_simp
          exact grows_value _ _
        intro K hK
        go_simp
        refine hK _ ?_
        clear hK K
        refine wpGrow_end (fun wg hwg _ => ?_)
        go_wp2
        go_ret
        exact ⟨rfl, hbl1.trans (hwg.mono hbl1.size)⟩
      · apply And.intro
        · repeat (first | exact trivial | (refine ⟨Stays.is _, ?_⟩) | (refine ⟨Stays.bs _, ?_⟩))
        · rfl
end Go.Proofs.YtlhdeclimodfdaaDoor
