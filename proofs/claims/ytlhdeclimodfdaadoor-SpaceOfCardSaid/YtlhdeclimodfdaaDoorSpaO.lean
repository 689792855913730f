/- The statements of layer 9: SpaceOnce: the pages as a map. -/
import Derived.Test.YtlhdeclimodfdaaDoorSpaD
import Derived.Maps.OwnSet
import Derived.WalkKit
namespace Go.Proofs.YtlhdeclimodfdaaDoor
open Go Go.RowKit Go.Maps
set_option linter.unusedVariables false

theorem count_flip1 {l : List Bool} {p : Nat} (hp : p < l.length) (h0 : l.getD p false = true) : (flipAt l p).count true + 1 = l.count true := by
  unfold flipAt
  rw [h0]
  have h1 : l[p] = true := by simpa [List.getD_eq_getElem?_getD, hp] using h0
  have h2 : 0 < l.count true := List.count_pos_iff.2 (by rw [← h1]; exact List.getElem_mem hp)
  rw [List.count_set (by simpa using hp)]
  simp [h1]
  omega
theorem flip_has1 {l : List Bool} {p : Nat} (hp : p < l.length) (h0 : l.getD p false = true) : (flipAt l p).getD p false = false := by
  unfold flipAt; rw [h0]; simp [List.getD_eq_getElem?_getD, hp]
theorem hasB_cases (l : List Bool) (p : Int) : (∃ q : Nat, p = (q : Int) ∧ q < l.length ∧ l.getD q false = true ∧ hasB l p = true) ∨ hasB l p = false := by
  cases h : hasB l p with
  | false => exact .inr rfl
  | true =>
    refine .inl ⟨p.toNat, ?_, ?_, ?_, rfl⟩ <;> (unfold hasB at h; simp only [Bool.and_eq_true, decide_eq_true_eq] at h) <;> first | omega | exact h.2
theorem claimB_cases (l : List Bool) (p : Int) : (∃ q : Nat, p = (q : Int) ∧ q < l.length ∧ l.getD q false = false ∧ claimB l p = (flipAt l q, 0)) ∨ claimB l p = (l, 92) := by
  by_cases h : p < 0 ∨ (l.length : Int) ≤ p ∨ hasB l p = true
  · exact .inr (by unfold claimB; rw [if_pos h])
  · refine .inl ⟨p.toNat, by omega, by omega, ?_, by unfold claimB; rw [if_neg h]⟩
    have h1 : ¬ hasB l p = true := fun e => h (.inr (.inr e))
    have h2 := hasB_nat l p.toNat
    rw [show ((p.toNat : Nat) : Int) = p by omega] at h2
    rw [← h2]; simpa using h1
theorem freeB_cases (l : List Bool) (p : Int) : (∃ q : Nat, p = (q : Int) ∧ q < l.length ∧ l.getD q false = true ∧ freeB l p = (flipAt l q, 0)) ∨ freeB l p = (l, 92) := by
  rcases hasB_cases l p with ⟨q, rfl, h1, h2, h3⟩ | h
  · exact .inl ⟨q, rfl, h1, h2, by unfold freeB; rw [if_pos h3]; rfl⟩
  · exact .inr (by unfold freeB; rw [h]; rfl)

/-- The map of the pages that are somebody's. -/
def Mine (w : World) (mb n : Nat) (D : DataW Unit) (l : List Bool) : Prop :=
  w.ownsMap Tryd.prog 3 (plainElem Tryd.prog 3) mb n D ∧ (∀ q : Nat, Maps.has D (.int .i64 (q : Int)) = l.getD q false) ∧ Maps.size D = l.count true
theorem lawInt : Keyed Tryd.prog 3 := int_keyed Tryd.underlying3
theorem zeroInt (w : World) : (zeroValue 3).run Tryd.prog w = .ok (.int .i64 0) w := by kernel_rfl
theorem wfn {q : Nat} (h : q ≤ 1000) : (Lit.int .i64 (q : Int)).wf = true := by
  simp only [Lit.wf, IntKind.min, IntKind.max, IntKind.signed, IntKind.bits, Bool.and_eq_true, decide_eq_true_eq, if_true]
  omega
theorem keyn {q : Nat} (h : q ≤ 1000) : keyOf Tryd.prog 3 (.int .i64 (q : Int)) = some (.int .i64 (q : Int)) := keyOf_int_mk Tryd.underlying3 (wfn h)
theorem lit_ne {p q : Nat} (h : p ≠ q) : (Lit.int .i64 (p : Int)) ≠ Lit.int .i64 (q : Int) := by
  intro e; injection e with _ e; exact h (Int.ofNat_inj.1 e)
theorem Mine.grown {w w' : World} {mb n : Nat} {D : DataW Unit} {l : List Bool} {row : Option Nat} (h : Mine w mb n D l) (hg : w.grownBy w' row) (hne : some mb ≠ row) : Mine w' mb n D l := ⟨h.1.kept hg hne, h.2⟩
theorem Mine.put {w w' : World} {mb n : Nat} {D : DataW Unit} {l : List Bool} {q : Nat} {d : DataW Unit} (h : Mine w mb n D l) (hq : q < l.length) (h0 : l.getD q false = false)
    (ho : w'.ownsMap Tryd.prog 3 (plainElem Tryd.prog 3) mb (n + 1) (D.put (.int .i64 (q : Int)) d)) : Mine w' mb (n + 1) (D.put (.int .i64 (q : Int)) d) (flipAt l q) := by
  refine ⟨ho, fun j => ?_, ?_⟩
  · by_cases hj : j = q
    · subst hj
      rw [has_put_same h.1.isMap (by simp [WideAt.IsKeyLit]), flip_has hq h0]
    · rw [has_put_other (lit_ne hj), flip_other hj, h.2.1]
  · rw [size_put (h.1.tidy lawInt), h.2.1, h0, h.2.2, count_flip hq h0]; rfl
theorem Mine.del {w w' : World} {mb n : Nat} {D : DataW Unit} {l : List Bool} {q : Nat} (h : Mine w mb n D l) (hq : q < l.length) (h0 : l.getD q false = true)
    (ho : w'.ownsMap Tryd.prog 3 (plainElem Tryd.prog 3) mb n (D.del (.int .i64 (q : Int)))) : Mine w' mb n (D.del (.int .i64 (q : Int))) (flipAt l q) := by
  refine ⟨ho, fun j => ?_, ?_⟩
  · by_cases hj : j = q
    · subst hj
      rw [has_del_same, flip_has1 hq h0]
    · rw [has_del_other (lit_ne hj), flip_other hj, h.2.1]
  · have h1 := size_del (k := .int .i64 (q : Int)) (h.1.tidy lawInt)
    rw [h.2.1, h0, h.2.2] at h1
    have h2 := count_flip1 hq h0
    simp at h1
    omega
theorem bad_do (l : List Bool) (k p : Int) : (0 ≤ k ∧ k ≤ 2 ∧ (∃ q : Nat, q < l.length ∧ (k = 0 ∨ p = (q : Int)) ∧ l.getD q false = decide (k = 2) ∧ ∃ a : Nat, doB l k p = (flipAt l q, a, 0) ∧ (k = 0 → a = q))) ∨
    (0 ≤ k ∧ k ≤ 2 ∧ ∃ er : Nat, doB l k p = (l, 0, er) ∧ 0 < er ∧ er < 1000) ∨ ((k < 0 ∨ 2 < k) ∧ doB l k p = (l, 0, 0)) := by
  by_cases h0 : k = 0
  · subst h0
    rcases takeB_cases l with ⟨q, htk, hq, hq0, hall, hcnt⟩ | ⟨htk, hcnt⟩
    · exact .inl ⟨by omega, by omega, q, hq, .inl rfl, hq0, q, by unfold doB; rw [if_pos rfl]; exact htk, fun _ => rfl⟩
    · exact .inr (.inl ⟨by omega, by omega, 91, by unfold doB; rw [if_pos rfl]; exact htk, by omega, by omega⟩)
  · by_cases h1 : k = 1
    · subst h1
      rcases claimB_cases l p with ⟨q, e, hq, hq0, hc⟩ | hc
      · exact .inl ⟨by omega, by omega, q, hq, .inr e, hq0, 0, by unfold doB; rw [if_neg (by omega), if_pos rfl, hc], fun h => absurd h (by omega)⟩
      · exact .inr (.inl ⟨by omega, by omega, 92, by unfold doB; rw [if_neg (by omega), if_pos rfl, hc], by omega, by omega⟩)
    · by_cases h2 : k = 2
      · subst h2
        rcases freeB_cases l p with ⟨q, e, hq, hq0, hc⟩ | hc
        · exact .inl ⟨by omega, by omega, q, hq, .inr e, hq0, 0, by unfold doB; rw [if_neg (by omega), if_neg (by omega), if_pos rfl, hc], fun h => absurd h (by omega)⟩
        · exact .inr (.inl ⟨by omega, by omega, 92, by unfold doB; rw [if_neg (by omega), if_neg (by omega), if_pos rfl, hc], by omega, by omega⟩)
      · exact .inr (.inr ⟨by omega, by unfold doB; rw [if_neg h0, if_neg h1, if_neg h2]⟩)

/-- What a round has laid behind it. -/
def Round (w0 w : World) (mb n m : Nat) (D : DataW Unit) (l : List Bool) : Prop := Sp w w0.heap.size l ∧ l.length = m ∧ Mine w mb n D l ∧ Below w0.heap.size w0 w ∧ w0.heap.size < mb

set_option maxHeartbeats 4000000 in
set_option maxRecDepth 100000 in
theorem law_SpaceOnce (n : Int) (v : Value) (acts : List (Int × Int)) (w : World) (hT : TabOk w) (hn : -9223372036854775808 ≤ n ∧ n ≤ 9223372036854775807) (hv : Acts (fun b => b < w.heap.size) w v acts) :
    Calls Tryd.prog 3 #[.int .i64 n, v] w fun e w' => e = .returned (.bool true) ∧ Below w.heap.size w w' := by
  have HT := Lib.hid hT
  clear hT
  obtain ⟨A, c, rfl, hm, hbd, hA⟩ := hv
  have HA := Lib.hid hA
  have HBD := Lib.hid hbd
  clear hA hbd
  by_cases hn1 : n < 1 ∨ 256 < n
  · go_enter Tryd.func3, Tryd.ntmps3
    go_wp2_with fail
    refine (new_bad n w hn1).mono ?_
    rintro e w1 ⟨rfl, rfl⟩
    go_wp2_with fail
    refine (awake9_any w HT.out).mono ?_
    rintro e w1 ⟨rfl, q1⟩
    go_wp2_with fail
    refine (awake9_any w1 (HT.out.later q1)).mono ?_
    rintro e w2 ⟨rfl, q2⟩
    go_wp2_with fail
    go_ret
    exact ⟨rfl, below_chain q1 q2⟩
  · obtain ⟨m, rfl⟩ : ∃ m : Nat, n = (m : Int) := ⟨n.toNat, by omega⟩
    have hm1 : 1 ≤ m := by omega
    have hm2 : m ≤ 256 := by omega
    clear hn1 hn
    have hmm := @run_makeMap Tryd.prog
    go_enter Tryd.func3, Tryd.ntmps3
    go_wp2_with fail
    refine (new_ok m w hm1 hm2).mono ?_
    rintro e w1 ⟨rfl, hs1, q1⟩
    go_wp2_with fail
    refine (awake9_any w1 (HT.out.later q1)).mono ?_
    rintro e w2 ⟨rfl, hbl2⟩
    have hs2 := hs1.later hbl2
    have q2 := below_chain q1 hbl2
    have hgm : w.heap.size < w2.heap.size := hs2.1.lt
    have R0 : Round w (w2.alloc (.map #[] 0)) w2.heap.size 0 m (.map []) (List.replicate m false) :=
      ⟨hs2.later ((Below.refl _ _).alloc (Nat.le_refl _) _), by simp, ⟨World.ownsMap_made _ _ _ _, fun q => by simp [Maps.has, List.getD_eq_getElem?_getD, List.getElem?_replicate]; split <;> rfl, by simp [Maps.size, List.count_replicate]⟩, q2.alloc q2.size _, hgm⟩
    clear hs1 hbl2 q1 hs2 q2 hgm
    go_wp2_with fail
    clear hmm
    generalize w2.heap.size = mb at *
    go_loopw [8, 9, 10, 11, 12, 13] (fun iv _ _ _ _ _ wr => ∃ (i nn : Nat) (D : DataW Unit) (l : List Bool), iv = .int .i64 (i : Int) ∧ i ≤ acts.length ∧ i ≤ 100 ∧ nn ≤ i ∧ Round w wr mb nn m D l) (fun iv _ _ _ _ _ _ => 100 - (intOf iv).toNat)
    case atStart => exact ⟨0, 0, _, _, rfl, by omega, by omega, by omega, R0⟩
    case round =>
      obtain ⟨i, nn, D, l, rfl, hi, hi100, hnn, hsp, hlen, hmine, hbl, hgm⟩ := hrel
      clear R0
      have hsz := hbl.size
      have HSP := Lib.hid hsp
      have HMI := Lib.hid hmine
      obtain ⟨_, hl1, hl2⟩ := hsp
      clear hmine
      by_cases hgo : i < acts.length ∧ i < 100
      · obtain ⟨hil, hi1⟩ := hgo
        obtain ⟨b, o, rfl, hbs, hcell⟩ := HA.out (by omega)
        obtain ⟨c1, c2⟩ := hcell i hil
        have hx := HBD.out _ (List.getElem_mem hil)
        have HD1 : Hid (wr.cell? ⟨b, o + i * 2, none⟩ = some (.int .i64 acts[i].1)) := (hbl.cell (p := ⟨b, o + i * 2, none⟩) hbs).trans c1
        have HD2 : Hid (wr.cell? ⟨b, o + i * 2 + 1, none⟩ = some (.int .i64 acts[i].2)) := (hbl.cell (p := ⟨b, o + i * 2 + 1, none⟩) hbs).trans c2
        have HC1 : Hid (w.cell? ⟨b, o + i * 2, none⟩ = some (.int .i64 acts[i].1)) := c1
        have HC2 : Hid (w.cell? ⟨b, o + i * 2 + 1, none⟩ = some (.int .i64 acts[i].2)) := c2
        generalize acts[i].1 = k at *
        generalize acts[i].2 = p at *
        obtain ⟨hk, hp⟩ := hx
        clear hcell c1 c2
        have hrg := range2 HD1.out HD2.out
        have HDO := Lib.hid (bad_do l k p)
        go_wp2_with (refine wpList_load_mid rfl _ (.tmp 49) rfl b (o + i * 2) rfl [.int .i64 k, .int .i64 p] _ hrg Tryd.underlying32 rfl infoAct ?_)
        refine (do_any w.heap.size l k p wr (HT.out.later hbl) HSP.out hk hp).mono ?_
        rintro e w4 ⟨rfl, hs4, hg4⟩
        have q4 := hbl.trans (grown_below hg4 (Nat.le_refl _) hsz)
        have HM4 := Lib.hid (HMI.out.grown hg4 (by intro e; injection e with e; omega))
        have d1 : w4.cell? ⟨b, o + i * 2, none⟩ = some (.int .i64 k) := (q4.cell (p := ⟨b, o + i * 2, none⟩) hbs).trans HC1.out
        have d2 : w4.cell? ⟨b, o + i * 2 + 1, none⟩ = some (.int .i64 p) := (q4.cell (p := ⟨b, o + i * 2 + 1, none⟩) hbs).trans HC2.out
        have hsz4 := q4.size
        clear hg4 HSP HMI hrg HD1 HD2 hbl hsz
        rcases HDO.out with ⟨hk0, hk2, q, hq, hpq, hgt, a, hdo, ha⟩ | ⟨hk0, hk2, er, hdo, her, her2⟩ | ⟨hkk, hdo⟩
        · rw [hdo] at hs4 ⊢
          have HS4 := Lib.hid hs4
          clear hdo hs4 HDO
          have hkey := keyn (q := q) (by omega)
          have hcle : (flipAt l q).count true ≤ m := by have := List.count_le_length (a := true) (l := flipAt l q); rw [flipAt_length] at this; omega
          have hlf : (flipAt l q).length = m := by rw [flipAt_length]; exact hlen
          have hkc : k = 0 ∨ k = 1 ∨ k = 2 := by omega
          rcases hkc with rfl | rfl | rfl
          · obtain rfl := ha rfl
            have HAS : Hid (Maps.has D (.int .i64 (a : Int)) = false) := by rw [Hid, HM4.out.2.1, hgt]; rfl
            have HGT := Lib.hid hgt
            have hown := HM4.out.1
            clear ha hgt hpq
            go_wp2_with (first
              | (at_lookup; refine wpList_lookup_own_ok_int _ rfl _ _ 28 rfl 3 3 .i64 lawInt Tryd.underlying28 Tryd.underlying3 (zeroInt _) mb nn D rfl hown _ _ rfl hkey ?_; intro c0 hat hwc; clear hat hwc; rw [HAS.out])
              | (at_mapUpdate; refine wpList_mapUpdate_own _ rfl _ _ _ 28 rfl 3 3 lawInt Tryd.underlying28 _ mb nn D rfl hown (by unfold maxLen; omega) _ _ _ rfl rfl hkey _ [] (plainElem_int Tryd.underlying3 (wfn (by omega))) ?_; intro w5 hown5 hgrow5)
              | fail)
            have HM5 := Lib.hid (HM4.out.put (by omega) HGT.out hown5)
            have HS5 := Lib.hid (HS4.out.grown hgrow5 (by intro e; injection e with e; omega))
            have q5 := q4.grown hgrow5 hsz4 (fun j hj => by cases hj; omega)
            have hown' := HM5.out.1
            have HSZ := Lib.hid HM5.out.2.2
            clear hown hown5 hgrow5 HS4 HM4 q4 hsz4 HAS
            generalize hct : (flipAt l a).count true = ct at *
            go_wp2_with fail
            refine (left_any w.heap.size _ w5 HS5.out).mono ?_
            rintro e w6 ⟨rfl, rfl⟩
            rw [hct, hlf]
            have HCT := Lib.hid hct
            clear hct
            go_wp2_with (first
              | (at_len; refine wpList_len_own _ rfl _ 28 rfl 3 3 Tryd.underlying28 _ mb (nn + 1) _ rfl hown' ?_; rw [HSZ.out])
              | fail)
            go_roundw
            case rel => exact ⟨i + 1, _, _, _, by go_num, by omega, by omega, by omega, HS5.out, hlf, HM5.out, q5, hgm⟩
            case measure => simp [intOf]; omega
          · obtain rfl : p = (q : Int) := hpq.resolve_left (by omega)
            have HAS : Hid (Maps.has D (.int .i64 (q : Int)) = false) := by rw [Hid, HM4.out.2.1, hgt]; rfl
            have HGT := Lib.hid hgt
            have hown := HM4.out.1
            clear ha hgt hpq
            go_wp2_with (first
              | (at_lookup; refine wpList_lookup_own_ok_int _ rfl _ _ 28 rfl 3 3 .i64 lawInt Tryd.underlying28 Tryd.underlying3 (zeroInt _) mb nn D rfl hown _ _ rfl hkey ?_; intro c0 hat hwc; clear hat hwc; rw [HAS.out])
              | (at_mapUpdate; refine wpList_mapUpdate_own _ rfl _ _ _ 28 rfl 3 3 lawInt Tryd.underlying28 _ mb nn D rfl hown (by unfold maxLen; omega) _ _ _ rfl rfl hkey _ [] (plainElem_int Tryd.underlying3 (wfn (by omega))) ?_; intro w5 hown5 hgrow5)
              | fail)
            have HM5 := Lib.hid (HM4.out.put (by omega) HGT.out hown5)
            have HS5 := Lib.hid (HS4.out.grown hgrow5 (by intro e; injection e with e; omega))
            have q5 := q4.grown hgrow5 hsz4 (fun j hj => by cases hj; omega)
            have hown' := HM5.out.1
            have HSZ := Lib.hid HM5.out.2.2
            clear hown hown5 hgrow5 HS4 HM4 q4 hsz4 HAS
            generalize hct : (flipAt l q).count true = ct at *
            go_wp2_with fail
            refine (left_any w.heap.size _ w5 HS5.out).mono ?_
            rintro e w6 ⟨rfl, rfl⟩
            rw [hct, hlf]
            have HCT := Lib.hid hct
            clear hct
            go_wp2_with (first
              | (at_len; refine wpList_len_own _ rfl _ 28 rfl 3 3 Tryd.underlying28 _ mb (nn + 1) _ rfl hown' ?_; rw [HSZ.out])
              | fail)
            go_roundw
            case rel => exact ⟨i + 1, _, _, _, by go_num, by omega, by omega, by omega, HS5.out, hlf, HM5.out, q5, hgm⟩
            case measure => simp [intOf]; omega
          · obtain rfl : p = (q : Int) := hpq.resolve_left (by omega)
            have HAS : Hid (Maps.has D (.int .i64 (q : Int)) = true) := by rw [Hid, HM4.out.2.1, hgt]; rfl
            have HGT := Lib.hid hgt
            have hown := HM4.out.1
            clear ha hgt hpq
            go_wp2_with (first
              | (at_lookup; refine wpList_lookup_own_ok_int _ rfl _ _ 28 rfl 3 3 .i64 lawInt Tryd.underlying28 Tryd.underlying3 (zeroInt _) mb nn D rfl hown _ _ rfl hkey ?_; intro c0 hat hwc; clear hat hwc; rw [HAS.out])
              | (at_delete; refine wpList_delete_own _ rfl _ _ 28 3 rfl 3 lawInt Tryd.underlying28 _ mb nn D rfl hown _ _ rfl hkey ?_; intro w5 hown5 hturn5; have hgrow5 := hturn5.grown; clear hturn5)
              | fail)
            have HM5 := Lib.hid (HM4.out.del (by omega) HGT.out hown5)
            have HS5 := Lib.hid (HS4.out.grown hgrow5 (by intro e; injection e with e; omega))
            have q5 := q4.grown hgrow5 hsz4 (fun j hj => by cases hj; omega)
            have hown' := HM5.out.1
            have HSZ := Lib.hid HM5.out.2.2
            clear hown hown5 hgrow5 HS4 HM4 q4 hsz4 HAS
            generalize hct : (flipAt l q).count true = ct at *
            go_wp2_with fail
            refine (left_any w.heap.size _ w5 HS5.out).mono ?_
            rintro e w6 ⟨rfl, rfl⟩
            rw [hct, hlf]
            have HCT := Lib.hid hct
            clear hct
            go_wp2_with (first
              | (at_len; refine wpList_len_own _ rfl _ 28 rfl 3 3 Tryd.underlying28 _ mb nn _ rfl hown' ?_; rw [HSZ.out])
              | fail)
            go_roundw
            case rel => exact ⟨i + 1, _, _, _, by go_num, by omega, by omega, by omega, HS5.out, hlf, HM5.out, q5, hgm⟩
            case measure => simp [intOf]; omega
        · rw [hdo] at hs4 ⊢
          have HS4 := Lib.hid hs4
          clear hdo hs4 HDO
          by_cases hk00 : k = 0
          · subst hk00
            go_wp2_with fail
            go_roundw
            case rel => exact ⟨i + 1, nn, D, l, by go_num, by omega, by omega, by omega, HS4.out, hlen, HM4.out, q4, hgm⟩
            case measure => simp [intOf]; omega
          · have t0 : (k != 0) = true := by rw [bne_iff_ne]; exact hk00
            go_wp2_with fail
            go_roundw
            case rel => exact ⟨i + 1, nn, D, l, by go_num, by omega, by omega, by omega, HS4.out, hlen, HM4.out, q4, hgm⟩
            case measure => simp [intOf]; omega
        · rw [hdo] at hs4 ⊢
          have HS4 := Lib.hid hs4
          clear hdo hs4 HDO
          have t0 : (k != 0) = true := by rw [bne_iff_ne]; omega
          rcases hkk with hkk | hkk
          · go_wp2_with fail
            go_roundw
            case rel => exact ⟨i + 1, nn, D, l, by go_num, by omega, by omega, by omega, HS4.out, hlen, HM4.out, q4, hgm⟩
            case measure => simp [intOf]; omega
          · go_wp2_with fail
            go_roundw
            case rel => exact ⟨i + 1, nn, D, l, by go_num, by omega, by omega, by omega, HS4.out, hlen, HM4.out, q4, hgm⟩
            case measure => simp [intOf]; omega
      · have hcase : ¬ i < acts.length ∨ (i < acts.length ∧ ¬ i < 100) := by omega
        rcases hcase with t | ⟨t, t2⟩
        all_goals
          go_wp2_with fail
          go_ret
          exact ⟨rfl, hbl⟩
end Go.Proofs.YtlhdeclimodfdaaDoor
