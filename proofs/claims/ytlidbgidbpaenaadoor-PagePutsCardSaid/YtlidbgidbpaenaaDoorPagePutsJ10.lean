/- What the proof of PagePuts needs, part 10. -/
import Derived.Test.YtlidbgidbpaenaaDoorPagePutsJ9

namespace Go.Proofs.YtlidbgidbpaenaaDoor
open Go Go.RowKit
set_option linter.unusedVariables false

/-- The first half has k cells. -/
structure HalfAt (cs : List Cel) (k : Nat) : Prop where
  lo : 1 ≤ k
  hi : k + 1 ≤ cs.length
  less : ∀ j, 1 ≤ j → j < k → 2 * celsN (cs.take j) < celsN cs
  stop : k + 1 = cs.length ∨ celsN cs ≤ 2 * celsN (cs.take k)
theorem HalfAt.only {cs : List Cel} {k j : Nat} (h : HalfAt cs k) (h' : HalfAt cs j) : k = j := by
  rcases Nat.lt_trichotomy k j with hl | rfl | hl
  · have h1 := h'.less k h.lo hl
    have h2 := h.stop
    have h3 := h'.hi
    omega
  · rfl
  · have h1 := h.less j h'.lo hl
    have h2 := h'.stop
    have h3 := h.hi
    omega

/-- A page among the results: its cells lie in new memory. -/
def PgIs (B : Nat) (w : World) (v : Value) (leaf : Bool) (next : Int) (cs : List Cel) : Prop :=
  ∃ A c, v = .agg #[.bool leaf, .int .i64 next, .slice A cs.length c] ∧ Cs (fun b => B ≤ b ∧ b < w.heap.size) w (.slice A cs.length c) cs

set_option maxHeartbeats 2000000 in
set_option maxRecDepth 100000 in
theorem psplit_short (S : Nat → Prop) (leaf : Bool) (next : Int) (v0 : Value) (cs : List Cel) (w : World) (hr : Cs S w v0 cs) (hs : cs.length < 2) :
    Calls Tryd.prog 24 #[.agg #[.bool leaf, .int .i64 next, v0]] w fun e w' => e = .returned (.tuple #[.agg #[.bool false, .int .i64 0, .slice none 0 0], .agg #[.bool false, .int .i64 0, .slice none 0 0], .int .i64 103]) ∧ Below w.heap.size w w' := by
  obtain ⟨A, c, rfl, hlc, hcm, hA0, _⟩ := hr.at
  clear hr
  go_enter Tryd.func24, Tryd.ntmps24
  go_wp2_with fail
  have b1 : Blk (((w.alloc (.cells #[.bool leaf, .int .i64 next, .slice A cs.length c] 24)).alloc (.cells #[.bool false, .int .i64 0, .slice none 0 0] 24)).alloc (.cells #[.bool false, .int .i64 0, .slice none 0 0] 24)) (w.heap.size + 1) 24 #[.bool false, .int .i64 0, .slice none 0 0] := (Blk.new1 _ _ _ _).alloc _
  have b2 : Blk (((w.alloc (.cells #[.bool leaf, .int .i64 next, .slice A cs.length c] 24)).alloc (.cells #[.bool false, .int .i64 0, .slice none 0 0] 24)).alloc (.cells #[.bool false, .int .i64 0, .slice none 0 0] 24)) (w.heap.size + 1 + 1) 24 #[.bool false, .int .i64 0, .slice none 0 0] := by
    have := Blk.new1 (w.alloc (.cells #[.bool leaf, .int .i64 next, .slice A cs.length c] 24)) (.cells #[.bool false, .int .i64 0, .slice none 0 0] 24) 24 #[.bool false, .int .i64 0, .slice none 0 0]
    simpa using this
  exact bodyPost_ret (results_cells21 rfl _ _ (w.heap.size + 1) (w.heap.size + 1 + 1) rfl rfl b1 b2 pageTy pageTy) rfl ⟨rfl, (((Below.refl _ _).alloc (Nat.le_refl _) _).alloc (by simp) _).alloc (by simp; omega) _⟩

theorem Blk.put33 {w : World} {g1 g2 : Nat} {t t' : TypeId} {a b c a' b' c' : Value} (h : Blk w g1 t #[a, b, c]) (h' : Blk w g2 t' #[a', b', c']) (hne : g1 ≠ g2) (x y z u v r : Value) :
    Blk ((((((w.setCell ⟨g1, 0, none⟩ x).setCell ⟨g1, 1, none⟩ y).setCell ⟨g1, 2, none⟩ z).setCell ⟨g2, 0, none⟩ u).setCell ⟨g2, 1, none⟩ v).setCell ⟨g2, 2, none⟩ r) g1 t #[x, y, z] ∧
    Blk ((((((w.setCell ⟨g1, 0, none⟩ x).setCell ⟨g1, 1, none⟩ y).setCell ⟨g1, 2, none⟩ z).setCell ⟨g2, 0, none⟩ u).setCell ⟨g2, 1, none⟩ v).setCell ⟨g2, 2, none⟩ r) g2 t' #[u, v, r] :=
  ⟨(((h.put3 x y z).far (p := ⟨g2, 0, none⟩) hne u).far (p := ⟨g2, 1, none⟩) hne v).far (p := ⟨g2, 2, none⟩) hne r,
   Blk.put3 (((h'.far (p := ⟨g1, 0, none⟩) hne.symm x).far (p := ⟨g1, 1, none⟩) hne.symm y).far (p := ⟨g1, 2, none⟩) hne.symm z) u v r⟩
theorem Cs.put33 {S : Nat → Prop} {w : World} {sl : Value} {cs : List Cel} {g1 g2 L B : Nat} (h : Cs S w sl cs) (hS : ∀ b, S b → L ≤ b ∧ b < w.heap.size) (h1 : g1 < L) (h2 : g2 < L) (hB : B ≤ L) (x y z u v r : Value) :
    Cs (fun b => B ≤ b ∧ b < ((((((w.setCell ⟨g1, 0, none⟩ x).setCell ⟨g1, 1, none⟩ y).setCell ⟨g1, 2, none⟩ z).setCell ⟨g2, 0, none⟩ u).setCell ⟨g2, 1, none⟩ v).setCell ⟨g2, 2, none⟩ r).heap.size)
      ((((((w.setCell ⟨g1, 0, none⟩ x).setCell ⟨g1, 1, none⟩ y).setCell ⟨g1, 2, none⟩ z).setCell ⟨g2, 0, none⟩ u).setCell ⟨g2, 1, none⟩ v).setCell ⟨g2, 2, none⟩ r) sl cs := by
  have n1 : ¬ S g1 := fun e => by have := (hS _ e).1; omega
  have n2 : ¬ S g2 := fun e => by have := (hS _ e).1; omega
  refine Sl.more ((((((Sl.setCell h (p := ⟨g1, 0, none⟩) n1 x).setCell (p := ⟨g1, 1, none⟩) n1 y).setCell (p := ⟨g1, 2, none⟩) n1 z).setCell (p := ⟨g2, 0, none⟩) n2 u).setCell (p := ⟨g2, 1, none⟩) n2 v).setCell (p := ⟨g2, 2, none⟩) n2 r) fun b hb => ?_
  have := hS b hb
  exact ⟨by omega, by simpa using this.2⟩

set_option maxHeartbeats 4000000 in
set_option maxRecDepth 100000 in
theorem psplit_any (S : Nat → Prop) (leaf : Bool) (next : Int) (v0 : Value) (cs : List Cel) (w : World) (hm : Mid cs) (hr : Cs S w v0 cs) (hs : 2 ≤ cs.length) :
    Calls Tryd.prog 24 #[.agg #[.bool leaf, .int .i64 next, v0]] w fun e w' => ∃ k va vb, e = .returned (.tuple #[va, vb, .int .i64 0]) ∧ HalfAt cs k ∧ PgIs w.heap.size w' va leaf next (cs.take k) ∧ PgIs w.heap.size w' vb leaf next (cs.drop k) ∧ Below w.heap.size w w' := by
  have HR := Lib.hid hr.lt
  have hlt := hr.lt
  obtain ⟨A, c, rfl, hlc, hcm, hA0, hA⟩ := hlt.at
  obtain ⟨b, o, rfl, hbs, _⟩ := hA (by omega)
  have HM := Lib.hid hm
  have hml := hm.1
  have hN : celsN cs ≤ 131092 * 1000000 := Nat.le_trans (celsN_bound cs hm.2) (Nat.mul_le_mul_left _ hm.1)
  have hb0 : Blk (((w.alloc (.cells #[.bool leaf, .int .i64 next, .slice (some ⟨b, o, none⟩) cs.length c] 24)).alloc (.cells #[.bool false, .int .i64 0, .slice none 0 0] 24)).alloc (.cells #[.bool false, .int .i64 0, .slice none 0 0] 24)) w.heap.size 24 #[.bool leaf, .int .i64 next, .slice (some ⟨b, o, none⟩) cs.length c] := ((Blk.new _ _ _).alloc _).alloc _
  have hb1 : Blk (((w.alloc (.cells #[.bool leaf, .int .i64 next, .slice (some ⟨b, o, none⟩) cs.length c] 24)).alloc (.cells #[.bool false, .int .i64 0, .slice none 0 0] 24)).alloc (.cells #[.bool false, .int .i64 0, .slice none 0 0] 24)) (w.heap.size + 1) 24 #[.bool false, .int .i64 0, .slice none 0 0] := (Blk.new1 _ _ _ _).alloc _
  have hb2 : Blk (((w.alloc (.cells #[.bool leaf, .int .i64 next, .slice (some ⟨b, o, none⟩) cs.length c] 24)).alloc (.cells #[.bool false, .int .i64 0, .slice none 0 0] 24)).alloc (.cells #[.bool false, .int .i64 0, .slice none 0 0] 24)) (w.heap.size + 1 + 1) 24 #[.bool false, .int .i64 0, .slice none 0 0] := by
    have := Blk.new1 (w.alloc (.cells #[.bool leaf, .int .i64 next, .slice (some ⟨b, o, none⟩) cs.length c] 24)) (.cells #[.bool false, .int .i64 0, .slice none 0 0] 24) 24 #[.bool false, .int .i64 0, .slice none 0 0]
    simpa using this
  have q0 : Below w.heap.size w (((w.alloc (.cells #[.bool leaf, .int .i64 next, .slice (some ⟨b, o, none⟩) cs.length c] 24)).alloc (.cells #[.bool false, .int .i64 0, .slice none 0 0] 24)).alloc (.cells #[.bool false, .int .i64 0, .slice none 0 0] 24)) := (((Below.refl _ _).alloc (Nat.le_refl _) _).alloc (by simp) _).alloc (by simp; omega) _
  clear hA hr hlt hm
  go_enter Tryd.func24, Tryd.ntmps24
  go_wp2_with fail
  generalize hW : (((w.alloc (.cells #[.bool leaf, .int .i64 next, .slice (some ⟨b, o, none⟩) cs.length c] 24)).alloc (.cells #[.bool false, .int .i64 0, .slice none 0 0] 24)).alloc (.cells #[.bool false, .int .i64 0, .slice none 0 0] 24)) = W at *
  clear hW
  have HRW := Lib.hid (HR.out.up q0)
  refine (pbytes_any _ _ cs W HM.out HRW.out).mono ?_
  rintro e w1 ⟨rfl, hbl1⟩
  have HB0 := Lib.hid hb0
  have HB1 := Lib.hid hb1
  have HB2 := Lib.hid hb2
  have hWs := hb2.lt
  clear hb0 hb1 hb2
  obtain ⟨N, hNe⟩ : ∃ N, celsN cs = N := ⟨_, rfl⟩
  have HN := Lib.hid hNe
  rw [hNe] at hN ⊢
  clear hNe
  go_wp2_with fail
  go_loopw [6] (fun kv wr => ∃ k : Nat, kv = .int .i64 (k : Int) ∧ 1 ≤ k ∧ k + 1 ≤ cs.length ∧ Hid (∀ j, 1 ≤ j → j < k → 2 * celsN (cs.take j) < celsN cs) ∧ Below W.heap.size W wr) (fun kv _ => cs.length - (intOf kv).toNat)
  case atStart => exact ⟨1, rfl, by omega, by omega, fun j h1 h2 => by omega, hbl1⟩
  case round =>
    obtain ⟨k, rfl, hk1, hk2, hless, hbl⟩ := hrel
    have hsz := hbl.size
    have hb0 := HB0.out.later hbl
    have d2 : wr.cell? ⟨w.heap.size, 2, none⟩ = some (.slice (some ⟨b, o, none⟩) cs.length c) := hb0.cell 2
    have HRr := Lib.hid (HRW.out.up hbl)
    have HPR := Lib.hid (Cs.pre HRr.out (show k ≤ cs.length by omega))
    have hsub : IntKind.i64.wrap ((cs.length : Int) - 1) = (cs.length : Int) - 1 := IntWalk.i64_in _ (by omega)
    have HMk : Hid (Mid (cs.take k)) := ⟨by rw [List.length_take]; omega, fun c hc => HM.out.2 c (List.mem_of_mem_take hc)⟩
    have hNk : celsN (cs.take k) ≤ N := by rw [← HN.out]; exact celsN_le
    by_cases hkl : k + 2 ≤ cs.length
    · have hck : k ≤ c := by omega
      go_wp2_with fail
      refine (pbytes_any _ _ (cs.take k) wr HMk.out HPR.out).mono ?_
      rintro e w5 ⟨rfl, hbl5⟩
      obtain ⟨M, hMe⟩ : ∃ M, celsN (cs.take k) = M := ⟨_, rfl⟩
      have HME := Lib.hid hMe
      rw [hMe] at hNk ⊢
      clear hMe
      have hmul : IntKind.i64.wrap (2 * (M : Int)) = 2 * (M : Int) := IntWalk.i64_in _ (by omega)
      by_cases hlt : 2 * M < N
      · go_wp2_with fail
        go_roundw
        case rel =>
          refine ⟨k + 1, by go_num, by omega, by omega, fun j h1 h2 => ?_, hbl.trans (hbl5.mono hsz)⟩
          rcases Nat.lt_or_ge j k with h3 | h3
          · exact hless.out j h1 h3
          · obtain rfl : j = k := by omega
            rw [HME.out, HN.out]
            exact hlt
        case measure => simp [intOf]; omega
      · have HH : Hid (HalfAt cs k) := ⟨hk1, hk2, hless.out, .inr (by rw [HME.out, HN.out]; omega)⟩
        go_wp2_with fail
        obtain ⟨wf, hwf⟩ : ∃ wf : World, wf = w5 := ⟨_, rfl⟩
        subst hwf
        have hF := hbl.trans (hbl5.mono hsz)
        clear hbl5 d2 hb0 HRr HPR HMk
        have hb0f := HB0.out.later hF
        have d0f : wf.cell? ⟨w.heap.size, 0, none⟩ = some (.bool leaf) := hb0f.cell 0
        have d1f : wf.cell? ⟨w.heap.size, 1, none⟩ = some (.int .i64 next) := hb0f.cell 1
        have d2f : wf.cell? ⟨w.heap.size, 2, none⟩ = some (.slice (some ⟨b, o, none⟩) cs.length c) := hb0f.cell 2
        have HRf := Lib.hid (HRW.out.up hF)
        have hp := Cs.pre HRf.out (show k ≤ cs.length by omega)
        have hcut := Cs.cut HRf.out (show k ≤ cs.length by omega)
        rw [if_neg (by omega)] at hcut
        obtain ⟨la, hla⟩ : ∃ la, cs.take k = la := ⟨_, rfl⟩
        obtain ⟨lb, hlb⟩ : ∃ lb, cs.drop k = lb := ⟨_, rfl⟩
        have hll : la.length ≤ 1000000 := by rw [← hla, List.length_take]; omega
        have hll2 : lb.length ≤ 1000000 := by rw [← hlb, List.length_drop]; omega
        rw [hla] at hp
        rw [hlb] at hcut
        have HLA := Lib.hid hla
        have HLB := Lib.hid hlb
        have HPf := Lib.hid hp
        have HCf := Lib.hid hcut
        have HB1f := Lib.hid (HB1.out.later hF)
        have HB2f := Lib.hid (HB2.out.later hF)
        have hkc : k ≤ c := by omega
        have hszf := hF.size
        have hsp : IntKind.i64.wrap (k : Int) = (k : Int) := IntWalk.i64_in _ (by omega)
        have hne : ¬ c = k := by omega
        have n1 : ¬ w.heap.size = w.heap.size + 1 := by omega
        have n2 : ¬ w.heap.size + 1 = w.heap.size := by omega
        have n3 : ¬ w.heap.size = w.heap.size + 1 + 1 := by omega
        have n4 : ¬ w.heap.size + 1 + 1 = w.heap.size := by omega
        have n5 : ¬ w.heap.size + 1 = w.heap.size + 1 + 1 := by omega
        have n6 : ¬ w.heap.size + 1 + 1 = w.heap.size + 1 := by omega
        have hk0 : (0 : Int) ≤ (k : Int) := by omega
        have hki : (k : Int) ≤ (cs.length : Int) := by omega
        have hkci : (k : Int) ≤ (c : Int) := by omega
        have hci : (cs.length : Int) ≤ (c : Int) := by omega
        clear hla hlb hp hcut
        go_region_held3 (fun w' => w'.cell? ⟨w.heap.size, 0, none⟩ = some (.bool leaf) ∧ w'.cell? ⟨w.heap.size, 1, none⟩ = some (.int .i64 next) ∧ w'.cell? ⟨w.heap.size, 2, none⟩ = some (.slice (some ⟨b, o, none⟩) cs.length c))
          (first
            | go_keep
            | (go_split_ands
               refine ⟨?_, ?_, ?_⟩ <;> (apply cell_later hbz; assumption)))
          ((first
            | (go_at_call_of 55 (Value.slice (some ⟨b, o, none⟩) k c); refine (pclone_any (fun b => b < wf.heap.size) _ la _ (by omega) (by exact HPf.out)).mono ?_; rintro e w6 ⟨A6, c6, rfl, hco6, hbz⟩; have hq6 : Below wf.heap.size wf w6 := ⟨hbz.os, hbz.tape, hbz.output, hbz.size, hbz.block⟩; have hL6 : ∀ b, (wf.heap.size ≤ b ∧ b < w6.heap.size) → wf.heap.size ≤ b ∧ b < w6.heap.size := fun b h => h)
            | (go_at_call_of 55 (Value.slice (some ⟨b, o + k * 2, none⟩) (cs.length - k) (c - k)); refine (pclone_any (fun b => b < wf.heap.size) _ lb _ (by omega) (by exact HCf.out.later hq7)).mono ?_; rintro e w8 ⟨A8, c8, rfl, hco8, hbz⟩; have hz8 : Below w7.heap.size w7 w8 := ⟨hbz.os, hbz.tape, hbz.output, hbz.size, hbz.block⟩; have hq8 : Below wf.heap.size wf w8 := hq7.trans (hz8.mono hq7.size))
            | (go_at_call 54; refine (with_any (fun b => w7.heap.size ≤ b ∧ b < w8.heap.size) leaf next _ _ lb _ (by exact hco8.cs)).mono ?_; rintro e w9 ⟨A9, c9, rfl, hcs9, hbz⟩; have hz9 : Below w8.heap.size w8 w9 := ⟨hbz.os, hbz.tape, hbz.output, hbz.size, hbz.block⟩; have hq9 : Below wf.heap.size wf w9 := hq8.trans (hz9.mono hq8.size); have k1 := HB1f.out.later hq9; have k2 := HB2f.out.later hq9; have k10 : w9.cell? ⟨w.heap.size + 1, 0, none⟩ = some (.bool false) := k1.cell 0; have k11 : w9.cell? ⟨w.heap.size + 1, 1, none⟩ = some (.int .i64 0) := k1.cell 1; have k12 : w9.cell? ⟨w.heap.size + 1, 2, none⟩ = some (.slice none 0 0) := k1.cell 2; have k20 : w9.cell? ⟨w.heap.size + 1 + 1, 0, none⟩ = some (.bool false) := k2.cell 0; have k21 : w9.cell? ⟨w.heap.size + 1 + 1, 1, none⟩ = some (.int .i64 0) := k2.cell 1; have k22 : w9.cell? ⟨w.heap.size + 1 + 1, 2, none⟩ = some (.slice none 0 0) := k2.cell 2; have j10 := k1.free 0; have j11 := k1.free 1; have j12 := k1.free 2; have j20 := k2.free 0; have j21 := k2.free 1; have j22 := k2.free 2)
            | (go_at_call 54; refine (with_any (fun b => wf.heap.size ≤ b ∧ b < w6.heap.size) leaf next _ _ la _ (by exact hco6.cs)).mono ?_; rintro e w7 ⟨A7, c7, rfl, hcs7, hbz⟩; have hz7 : Below w6.heap.size w6 w7 := ⟨hbz.os, hbz.tape, hbz.output, hbz.size, hbz.block⟩; have hq7 : Below wf.heap.size wf w7 := hq6.trans (hz7.mono hq6.size))))
        go_wp2_with fail
        have hp33 := Blk.put33 k1 k2 n5 (.bool leaf) (.int .i64 next) (.slice A7 la.length c7) (.bool leaf) (.int .i64 next) (.slice A9 lb.length c9)
        have hWf : w.heap.size + 1 + 1 < wf.heap.size := Nat.lt_of_lt_of_le hWs hszf
        have ca := Cs.put33 (g1 := w.heap.size + 1) (g2 := w.heap.size + 1 + 1) (L := wf.heap.size) (B := w.heap.size) (Sl.below hcs7 ((hz8.trans (hz9.mono hz8.size))) (fun b h => Nat.lt_of_lt_of_le h.2 hz7.size)) (fun b h => ⟨h.1.1, Nat.lt_of_lt_of_le h.2 (Nat.le_trans hz7.size (Nat.le_trans hz8.size hz9.size))⟩) (by omega) hWf (by omega) (.bool leaf) (.int .i64 next) (.slice A7 la.length c7) (.bool leaf) (.int .i64 next) (.slice A9 lb.length c9)
        have cb := Cs.put33 (g1 := w.heap.size + 1) (g2 := w.heap.size + 1 + 1) (L := wf.heap.size) (B := w.heap.size) hcs9 (fun b h => ⟨Nat.le_trans (Nat.le_trans hq6.size hz7.size) h.1.1, Nat.lt_of_lt_of_le h.2 hz9.size⟩) (by omega) hWf (by omega) (.bool leaf) (.int .i64 next) (.slice A7 la.length c7) (.bool leaf) (.int .i64 next) (.slice A9 lb.length c9)
        have qf := below_put3 (below_put3 (g := w.heap.size + 1) (q0.trans ((hF.trans (hq9.mono hszf)).mono q0.size)) (by omega) (.bool leaf) (.int .i64 next) (.slice A7 la.length c7)) (g := w.heap.size + 1 + 1) (by omega) (.bool leaf) (.int .i64 next) (.slice A9 lb.length c9)
        exact bodyPost_ret (results_cells21 rfl _ _ (w.heap.size + 1) (w.heap.size + 1 + 1) rfl rfl hp33.1 hp33.2 pageTy pageTy) rfl ⟨k, _, _, rfl, HH.out, by rw [HLA.out]; exact ⟨A7, c7, rfl, ca⟩, by rw [HLB.out]; exact ⟨A9, c9, rfl, cb⟩, qf⟩
    · have HH : Hid (HalfAt cs k) := ⟨hk1, hk2, hless.out, .inl (by omega)⟩
      go_wp2_with fail
      obtain ⟨wf, hwf⟩ : ∃ wf : World, wf = wr := ⟨_, rfl⟩
      subst hwf
      have hF := hbl
      clear d2 hb0 HRr HPR HMk
      have hb0f := HB0.out.later hF
      have d0f : wf.cell? ⟨w.heap.size, 0, none⟩ = some (.bool leaf) := hb0f.cell 0
      have d1f : wf.cell? ⟨w.heap.size, 1, none⟩ = some (.int .i64 next) := hb0f.cell 1
      have d2f : wf.cell? ⟨w.heap.size, 2, none⟩ = some (.slice (some ⟨b, o, none⟩) cs.length c) := hb0f.cell 2
      have HRf := Lib.hid (HRW.out.up hF)
      have hp := Cs.pre HRf.out (show k ≤ cs.length by omega)
      have hcut := Cs.cut HRf.out (show k ≤ cs.length by omega)
      rw [if_neg (by omega)] at hcut
      obtain ⟨la, hla⟩ : ∃ la, cs.take k = la := ⟨_, rfl⟩
      obtain ⟨lb, hlb⟩ : ∃ lb, cs.drop k = lb := ⟨_, rfl⟩
      have hll : la.length ≤ 1000000 := by rw [← hla, List.length_take]; omega
      have hll2 : lb.length ≤ 1000000 := by rw [← hlb, List.length_drop]; omega
      rw [hla] at hp
      rw [hlb] at hcut
      have HLA := Lib.hid hla
      have HLB := Lib.hid hlb
      have HPf := Lib.hid hp
      have HCf := Lib.hid hcut
      have HB1f := Lib.hid (HB1.out.later hF)
      have HB2f := Lib.hid (HB2.out.later hF)
      have hkc : k ≤ c := by omega
      have hszf := hF.size
      have hsp : IntKind.i64.wrap (k : Int) = (k : Int) := IntWalk.i64_in _ (by omega)
      have hne : ¬ c = k := by omega
      have n1 : ¬ w.heap.size = w.heap.size + 1 := by omega
      have n2 : ¬ w.heap.size + 1 = w.heap.size := by omega
      have n3 : ¬ w.heap.size = w.heap.size + 1 + 1 := by omega
      have n4 : ¬ w.heap.size + 1 + 1 = w.heap.size := by omega
      have n5 : ¬ w.heap.size + 1 = w.heap.size + 1 + 1 := by omega
      have n6 : ¬ w.heap.size + 1 + 1 = w.heap.size + 1 := by omega
      have hk0 : (0 : Int) ≤ (k : Int) := by omega
      have hki : (k : Int) ≤ (cs.length : Int) := by omega
      have hkci : (k : Int) ≤ (c : Int) := by omega
      have hci : (cs.length : Int) ≤ (c : Int) := by omega
      clear hla hlb hp hcut
      go_region_held3 (fun w' => w'.cell? ⟨w.heap.size, 0, none⟩ = some (.bool leaf) ∧ w'.cell? ⟨w.heap.size, 1, none⟩ = some (.int .i64 next) ∧ w'.cell? ⟨w.heap.size, 2, none⟩ = some (.slice (some ⟨b, o, none⟩) cs.length c))
        (first
          | go_keep
          | (go_split_ands
             refine ⟨?_, ?_, ?_⟩ <;> (apply cell_later hbz; assumption)))
        ((first
          | (go_at_call_of 55 (Value.slice (some ⟨b, o, none⟩) k c); refine (pclone_any (fun b => b < wf.heap.size) _ la _ (by omega) (by exact HPf.out)).mono ?_; rintro e w6 ⟨A6, c6, rfl, hco6, hbz⟩; have hq6 : Below wf.heap.size wf w6 := ⟨hbz.os, hbz.tape, hbz.output, hbz.size, hbz.block⟩; have hL6 : ∀ b, (wf.heap.size ≤ b ∧ b < w6.heap.size) → wf.heap.size ≤ b ∧ b < w6.heap.size := fun b h => h)
          | (go_at_call_of 55 (Value.slice (some ⟨b, o + k * 2, none⟩) (cs.length - k) (c - k)); refine (pclone_any (fun b => b < wf.heap.size) _ lb _ (by omega) (by exact HCf.out.later hq7)).mono ?_; rintro e w8 ⟨A8, c8, rfl, hco8, hbz⟩; have hz8 : Below w7.heap.size w7 w8 := ⟨hbz.os, hbz.tape, hbz.output, hbz.size, hbz.block⟩; have hq8 : Below wf.heap.size wf w8 := hq7.trans (hz8.mono hq7.size))
          | (go_at_call 54; refine (with_any (fun b => w7.heap.size ≤ b ∧ b < w8.heap.size) leaf next _ _ lb _ (by exact hco8.cs)).mono ?_; rintro e w9 ⟨A9, c9, rfl, hcs9, hbz⟩; have hz9 : Below w8.heap.size w8 w9 := ⟨hbz.os, hbz.tape, hbz.output, hbz.size, hbz.block⟩; have hq9 : Below wf.heap.size wf w9 := hq8.trans (hz9.mono hq8.size); have k1 := HB1f.out.later hq9; have k2 := HB2f.out.later hq9; have k10 : w9.cell? ⟨w.heap.size + 1, 0, none⟩ = some (.bool false) := k1.cell 0; have k11 : w9.cell? ⟨w.heap.size + 1, 1, none⟩ = some (.int .i64 0) := k1.cell 1; have k12 : w9.cell? ⟨w.heap.size + 1, 2, none⟩ = some (.slice none 0 0) := k1.cell 2; have k20 : w9.cell? ⟨w.heap.size + 1 + 1, 0, none⟩ = some (.bool false) := k2.cell 0; have k21 : w9.cell? ⟨w.heap.size + 1 + 1, 1, none⟩ = some (.int .i64 0) := k2.cell 1; have k22 : w9.cell? ⟨w.heap.size + 1 + 1, 2, none⟩ = some (.slice none 0 0) := k2.cell 2; have j10 := k1.free 0; have j11 := k1.free 1; have j12 := k1.free 2; have j20 := k2.free 0; have j21 := k2.free 1; have j22 := k2.free 2)
          | (go_at_call 54; refine (with_any (fun b => wf.heap.size ≤ b ∧ b < w6.heap.size) leaf next _ _ la _ (by exact hco6.cs)).mono ?_; rintro e w7 ⟨A7, c7, rfl, hcs7, hbz⟩; have hz7 : Below w6.heap.size w6 w7 := ⟨hbz.os, hbz.tape, hbz.output, hbz.size, hbz.block⟩; have hq7 : Below wf.heap.size wf w7 := hq6.trans (hz7.mono hq6.size))))
      go_wp2_with fail
      have hp33 := Blk.put33 k1 k2 n5 (.bool leaf) (.int .i64 next) (.slice A7 la.length c7) (.bool leaf) (.int .i64 next) (.slice A9 lb.length c9)
      have hWf : w.heap.size + 1 + 1 < wf.heap.size := Nat.lt_of_lt_of_le hWs hszf
      have ca := Cs.put33 (g1 := w.heap.size + 1) (g2 := w.heap.size + 1 + 1) (L := wf.heap.size) (B := w.heap.size) (Sl.below hcs7 ((hz8.trans (hz9.mono hz8.size))) (fun b h => Nat.lt_of_lt_of_le h.2 hz7.size)) (fun b h => ⟨h.1.1, Nat.lt_of_lt_of_le h.2 (Nat.le_trans hz7.size (Nat.le_trans hz8.size hz9.size))⟩) (by omega) hWf (by omega) (.bool leaf) (.int .i64 next) (.slice A7 la.length c7) (.bool leaf) (.int .i64 next) (.slice A9 lb.length c9)
      have cb := Cs.put33 (g1 := w.heap.size + 1) (g2 := w.heap.size + 1 + 1) (L := wf.heap.size) (B := w.heap.size) hcs9 (fun b h => ⟨Nat.le_trans (Nat.le_trans hq6.size hz7.size) h.1.1, Nat.lt_of_lt_of_le h.2 hz9.size⟩) (by omega) hWf (by omega) (.bool leaf) (.int .i64 next) (.slice A7 la.length c7) (.bool leaf) (.int .i64 next) (.slice A9 lb.length c9)
      have qf := below_put3 (below_put3 (g := w.heap.size + 1) (q0.trans ((hF.trans (hq9.mono hszf)).mono q0.size)) (by omega) (.bool leaf) (.int .i64 next) (.slice A7 la.length c7)) (g := w.heap.size + 1 + 1) (by omega) (.bool leaf) (.int .i64 next) (.slice A9 lb.length c9)
      exact bodyPost_ret (results_cells21 rfl _ _ (w.heap.size + 1) (w.heap.size + 1 + 1) rfl rfl hp33.1 hp33.2 pageTy pageTy) rfl ⟨k, _, _, rfl, HH.out, by rw [HLA.out]; exact ⟨A7, c7, rfl, ca⟩, by rw [HLB.out]; exact ⟨A9, c9, rfl, cb⟩, qf⟩
end Go.Proofs.YtlidbgidbpaenaaDoor
