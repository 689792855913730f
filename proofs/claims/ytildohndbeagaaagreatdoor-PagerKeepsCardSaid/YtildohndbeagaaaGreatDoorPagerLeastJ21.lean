/- What the proof of PagerLeast needs, part 21. -/
import Derived.Test.YtildohndbeagaaaGreatDoorPagerLeastJ18
import Derived.Test.YtildohndbeagaaaGreatDoorPagerLeastJ20

namespace Go.Proofs.YtildohndbeagaaaGreatDoor
open Go Go.RowKit
set_option linter.unusedVariables false

def minus (left : Int → Bool) (x : Int) : Int → Bool := fun z => left z && !(z == x)
theorem takenT_minus {n : Nat} {t : TF} (ht : TbOk n t) {left : Int → Bool} {x : Int} {p l : Nat} (hx : left x = true) (hp : t x = some (p, l)) : (takenT n t left).getD p false = false ∧ p < (takenT n t left).length ∧ takenT n t (minus left x) = flipAt (takenT n t left) p := by
  have hpn := (ht.row x p l hp).1
  have h9 := ht.in90 x (by rw [hp]; rfl)
  have h0 : (takenT n t left).getD p false = false := by
    rw [← Bool.not_eq_true, takenT_get hpn]
    rintro ⟨i, hi, hl, l', hti⟩
    have := ht.one _ _ _ _ _ hti hp
    rw [this, hx] at hl
    cases hl
  refine ⟨h0, by rw [takenT_len]; exact hpn, ?_⟩
  apply List.ext_getElem
  · rw [takenT_len, flipAt_length, takenT_len]
  · intro q h1 h2
    rw [takenT_len] at h1
    have e : ∀ {u : List Bool} (h : q < u.length), u[q] = u.getD q false := fun h => by simp [List.getD_eq_getElem?_getD, h]
    rw [e, e]
    rw [Bool.eq_iff_iff, takenT_get h1]
    by_cases hq : q = p
    · subst hq
      rw [flip_self (by rw [takenT_len]; exact h1), h0]
      refine ⟨fun _ => rfl, fun _ => ⟨x.toNat, by omega, ?_, l, by rw [show ((x.toNat : Nat) : Int) = x by omega]; exact hp⟩⟩
      unfold minus
      rw [show ((x.toNat : Nat) : Int) = x by omega]
      simp
    · rw [flip_get _ p q hq, takenT_get h1]
      constructor
      · rintro ⟨i, hi, hl, l', hti⟩
        refine ⟨i, hi, ?_, l', hti⟩
        unfold minus at hl
        rw [Bool.and_eq_false_iff] at hl
        rcases hl with hl | hl
        · exact hl
        · have : (i : Int) = x := by simpa using hl
          rw [this, hp] at hti
          simp only [Option.some.injEq, Prod.mk.injEq] at hti
          exact absurd hti.1.symm hq
      · rintro ⟨i, hi, hl, l', hti⟩
        exact ⟨i, hi, by unfold minus; rw [hl]; rfl, l', hti⟩
theorem keptT_minus {t : TF} {g left : Int → Bool} {x : Int} {p l : Nat} (hx : left x = true) (hp : t x = some (p, l)) : keptT t g (minus left x) = if g x then keptT t g left else (keptT t g left).put x (p, l) := by
  funext y
  by_cases hy : y = x
  · subst hy
    unfold keptT minus TF.put
    cases hg : g y <;> simp [hx, hp]
  · have e : minus left x y = left y := by
      unfold minus
      have : (y == x) = false := by simpa using hy
      rw [this]; simp
    have e2 : keptT t g (minus left x) y = keptT t g left y := by unfold keptT; rw [e]
    rw [e2]
    cases hg : g x
    · exact (if_neg hy).symm
    · rfl
theorem taken_start (n : Nat) (t : TF) (left : Int → Bool) (h : ∀ x, (t x).isSome = true → left x = true) : takenT n t left = List.replicate n false := by
  apply List.ext_getElem
  · rw [takenT_len, List.length_replicate]
  · intro q h1 h2
    rw [takenT_len] at h1
    rw [List.getElem_replicate]
    have e : (takenT n t left)[q]'(by rw [takenT_len]; exact h1) = (takenT n t left).getD q false := by simp [List.getD_eq_getElem?_getD, takenT_len, h1]
    rw [e, ← Bool.not_eq_true, takenT_get h1]
    rintro ⟨i, hi, hl, l', hti⟩
    have := h i (by rw [hti]; rfl)
    rw [hl] at this
    cases this
theorem kept_start (t : TF) (g left : Int → Bool) (h : ∀ x, (t x).isSome = true → left x = true) : keptT t g left = fun _ => none := by
  funext x
  unfold keptT
  split
  · rfl
  · rename_i hh
    cases hx : t x with
    | none => rfl
    | some y => exact absurd (by rw [h x (by rw [hx]; rfl)]; rfl) hh
theorem left_no {left : Int → Bool} (h : ∀ x, left x = false) : left = noLeft := funext h

/-- What the first loop has done. -/
structure NxSt (w wr : World) (Z : Pz) (P : Pgr) (gs bo gr : Nat) (left : Int → Bool) (cnt : Nat) : Prop where
  rg : RgV Tryz.prog 3 wr Z.bt gr (tbV P.tb) (idsOf P.tb).length left cnt
  sp : Sp wr gs (takenT P.n P.tb left)
  out : Tbl wr bo (keptT P.tb P.gn left)
  gn : Gon wr Z.bg P.gn
  below : Below w.heap.size w wr
  gs0 : w.heap.size ≤ gs
  bo0 : w.heap.size ≤ bo
  gr0 : w.heap.size ≤ gr
  ne1 : gs ≠ bo
  ne2 : gs ≠ gr
  ne3 : bo ≠ gr
/-- What the second one has done: what is still to be done gives the rest. -/
structure NySt (w wr : World) (Z : Pz) (P : Pgr) (gs bo : Nat) (u : List Bool) (j : Nat) (t : TF) : Prop where
  sp : Sp wr gs u
  out : Tbl wr bo t
  rest : assignT P.wr u ((idsOf P.wr).drop j) t = P.next
  below : Below w.heap.size w wr
  gs0 : w.heap.size ≤ gs
  bo0 : w.heap.size ≤ bo
  ne1 : gs ≠ bo
def NxPost (Z : Pz) (P : Pgr) (w : World) (e : Ending) (w' : World) : Prop :=
  ((∃ t bo, P.next = some t ∧ e = .returned (.tuple #[.map (some bo), .bool true]) ∧ Tbl w' bo t ∧ w.heap.size ≤ bo) ∨ (P.next = none ∧ e = .returned (.tuple #[.map none, .bool false]))) ∧ Below w.heap.size w w' ∧ kindAt w' w.heap.size = some (some 145)

set_option maxHeartbeats 8000000 in
set_option maxRecDepth 100000 in
theorem pnext_any (Z : Pz) (P : Pgr) (w : World) (hT : TabOk w) (hp : Pg w Z P) (h2 : 2 ≤ P.n) (h256 : P.n ≤ 256) (ht : TbOk P.n P.tb) (hwl : ∀ x b, P.wr x = some b → b.length ≤ 2048) :
    Calls Tryz.prog 41 #[.pointer (some ⟨Z.g, 0, none⟩)] w (NxPost Z P w) := by
  have HP := Lib.hid hp
  have HT := Lib.hid hT
  have HTB := Lib.hid ht
  have HWL := Lib.hid hwl
  have hmm := @run_makeMap Tryz.prog
  have d3 : w.cell? ⟨Z.g, 3, none⟩ = some (.int .i64 (P.n : Int)) := hp.blk.cell 3
  have hlt := hp.tb.lt
  have hgl := hp.gn.lt
  clear hp hT ht hwl
  go_enter Tryz.func41, Tryz.ntmps41
  go_wp2_with fail
  refine (new_ok P.n w (by omega) h256).mono ?_
  rintro e w1 ⟨rfl, hsp1, q1⟩
  have HP1 := Lib.hid (HP.out.later q1)
  have HMP := Lib.hid (HP1.out.tb.mp.alloc (.map #[] 0))
  have hLeft : Hid (∀ a, ((tbV P.tb a).isSome && decide (-9223372036854775808 ≤ a) && decide (a ≤ 9223372036854775807)) = true ↔ InI a ∧ (tbV P.tb a).isSome = true) := fun a => by
    unfold InI
    simp only [Bool.and_eq_true, decide_eq_true_eq]
    exact ⟨fun h => ⟨⟨h.1.2, h.2⟩, h.1.1⟩, fun h => ⟨⟨h.2, h.1.1⟩, h.1.2⟩⟩
  have d5 : w1.cell? ⟨Z.g, 5, none⟩ = some (.map (some Z.bt)) := HP1.out.blk.cell 5
  have hg1 : Z.g < w1.heap.size := HP1.out.blk.lt
  have HSP1 := Lib.hid hsp1
  have hs1 := hsp1.1.lt
  have Q1 := Lib.hid q1
  have hsz1 := q1.size
  clear hsp1 q1 d3
  go_wp2_with (first
    | (at_range; refine wpList_range_mp _ rfl _ 77 rfl intTy tbTy rfl HMP.out _ hLeft.out ?_; intro w2 hrg2 hg2 hs2)
    | fail)
  go_frame
  have e1 : (w1.alloc (.map #[] 0)).heap.size = w1.heap.size + 1 := by simp
  rw [e1] at hrg2 hs2 ⊢
  have S0 : Hid (NxSt w w2 Z P w.heap.size w1.heap.size (w1.heap.size + 1) (fun a => (tbV P.tb a).isSome && decide (-9223372036854775808 ≤ a) && decide (a ≤ 9223372036854775807)) (idsOf P.tb).length) := by
    have hq : Below w1.heap.size w1 w2 := ((Below.refl _ _).alloc (Nat.le_refl _) (.map #[] 0)).grown hg2 (by simp) (fun j hj => by cases hj)
    have hall : ∀ x, (P.tb x).isSome = true → ((tbV P.tb x).isSome && decide (-9223372036854775808 ≤ x) && decide (x ≤ 9223372036854775807)) = true := fun x hx => by
      have := HTB.out.in90 x hx
      rw [tbV_some, hx]
      simp only [Bool.true_and, Bool.and_eq_true, decide_eq_true_eq]
      omega
    refine ⟨hrg2, ?_, ?_, HP1.out.gn.later hq, Q1.out.trans (hq.mono hsz1), Nat.le_refl _, hsz1, by omega, by omega, by omega, by omega⟩
    · rw [taken_start _ _ _ hall]
      exact HSP1.out.later hq
    · rw [kept_start _ _ _ hall]
      exact (Tbl.made w1).at (hg2.block w1.heap.size (by simp) (by simp))
  clear hrg2 hg2 hs2 d5
  generalize w1.heap.size = bo at *
  generalize hgs : w.heap.size = gs at *
  have HGS := Lib.hid hgs
  clear hgs
  go_loopw [] (fun wr => ∃ (left : Int → Bool) (cnt : Nat), Hid (NxSt w wr Z P gs bo (bo + 1) left cnt)) (fun wr => wr.rangeLeft Z.bt (bo + 1))
  case atStart => exact ⟨_, _, S0⟩
  case round =>
    clear S0
    obtain ⟨left, cnt, ST⟩ := hrel
    have hrg := ST.out.rg
    go_wp2_with (first
      | (at_next; refine wpList_next_mp _ rfl _ rfl intTy rfl hrg ?_ ?_)
      | fail)
    · intro hc0 hl0
      obtain rfl := left_no hl0
      have NY0 : Hid (NySt w wr Z P gs bo (takenT P.n P.tb noLeft) 0 (keptT P.tb P.gn noLeft)) := ⟨ST.out.sp, ST.out.out, by rw [List.drop_zero]; rfl, ST.out.below, ST.out.gs0, ST.out.bo0, ST.out.ne1⟩
      have Q3 := Lib.hid ST.out.below
      clear ST hrg hc0 hl0
      have HP3 := Lib.hid (HP.out.later Q3.out)
      have d6 : wr.cell? ⟨Z.g, 6, none⟩ = some (.map (some Z.bw)) := HP3.out.blk.cell 6
      have hwr3 := Q3.out.size
      go_wp2_with fail
      refine (keysW_any Z.bw wr).mono ?_
      rintro e w4 ⟨rfl, rfl⟩
      have qa : Below wr.heap.size wr (wr.alloc (.cells #[.map (some Z.bw)] 71)) := (Below.refl _ _).alloc (Nat.le_refl _) _
      have HP4 := Lib.hid (HP3.out.later qa)
      have QA := Lib.hid (Q3.out.trans (qa.mono hwr3))
      have BK := Lib.hid (Blk.new wr 71 #[.map (some Z.bw)])
      have NYA : Hid (NySt w (wr.alloc (.cells #[.map (some Z.bw)] 71)) Z P gs bo (takenT P.n P.tb noLeft) 0 (keptT P.tb P.gn noLeft)) := ⟨NY0.out.sp.later qa, NY0.out.out.later qa, NY0.out.rest, QA.out, NY0.out.gs0, NY0.out.bo0, NY0.out.ne1⟩
      obtain ⟨mw, hmw, hrw⟩ := HP4.out.wr.mp
      have HMW := Lib.hid hmw
      have HRW := Lib.hid hrw
      clear d6 qa HP3 NY0 Q3 hwr3 hmw hrw
      generalize hW4 : wr.alloc _ = w4 at *
      clear hW4
      go_wp2_with fail
      refine (sortedW_any Z.bw wr.heap.size _ w4 HMW.out (fun y hy => (HRW.out y hy).some_iff) HP4.out.wr.in90 BK.out).mono ?_
      rintro e w5 ⟨A5, c5, rfl, hown5, q5⟩
      have NY5 : Hid (NySt w w5 Z P gs bo (takenT P.n P.tb noLeft) 0 (keptT P.tb P.gn noLeft)) := ⟨NYA.out.sp.later q5, NYA.out.out.later q5, NYA.out.rest, QA.out.trans (q5.mono QA.out.size), NYA.out.gs0, NYA.out.bo0, NYA.out.ne1⟩
      have SL5 := Lib.hid (Sl.of_own (by omega) hown5)
      have HG4 : Hid (gs < w4.heap.size) := NYA.out.sp.1.lt
      have HB4 : Hid (bo < w4.heap.size) := NYA.out.out.lt
      have H54 := Lib.hid q5.size
      have HW5 := Lib.hid (Nat.le_refl w5.heap.size)
      clear hown5 q5 NYA BK HMW HRW QA HP4
      obtain ⟨n, hn⟩ : ∃ n, (idsOf P.wr).length = n := ⟨_, rfl⟩
      rw [hn] at SL5 ⊢
      have HN := Lib.hid hn
      have hn90 : n ≤ 90 := by rw [← hn]; exact ids_le P.wr
      clear hn
      go_wp2_with fail
      go_loopw [59] (fun jv wr => ∃ (j : Nat) (u : List Bool) (t : TF), jv = .int .i64 (j : Int) ∧ j ≤ n ∧ Hid (NySt w wr Z P gs bo u j t) ∧ Hid (Sl (fun b => w4.heap.size ≤ b ∧ b < w5.heap.size) wr 1 (.slice A5 n c5) n (iV (idsOf P.wr))) ∧ Hid (w5.heap.size ≤ wr.heap.size)) (fun jv _ => n - (intOf jv).toNat)
      case atStart => exact ⟨0, _, _, rfl, Nat.zero_le _, NY5, SL5, HW5⟩
      case round =>
        clear NY5 SL5 HW5
        obtain ⟨j, u, t, rfl, hj, NY, SL, HW⟩ := hrel
        by_cases hjn : j < n
        · obtain ⟨b5, o5, rfl, hb5, hcell⟩ : ∃ b o, A5 = some ⟨b, o, none⟩ ∧ (w4.heap.size ≤ b ∧ b < w5.heap.size) ∧ ∀ j u, (iV (idsOf P.wr))[j]? = some u → wr.cell? ⟨b, o + j, none⟩ = some u := by
            obtain ⟨_, A', c', hv, _, _, _, h6⟩ := SL.out
            injection hv with hA _ hc
            subst hA hc
            exact h6 (by omega)
          obtain ⟨i, hi⟩ : ∃ i, (idsOf P.wr)[j]? = some i := ⟨_, List.getElem?_eq_getElem (by rw [HN.out]; exact hjn)⟩
          have k0 : wr.cell? ⟨b5, o5 + j, none⟩ = some (.int .i64 (i : Int)) := hcell j _ (by unfold iV; rw [List.getElem?_map, hi]; rfl)
          have hmem := mem_ids.1 (List.mem_of_getElem? hi)
          have hi90 := hmem.1
          have hdrop : (idsOf P.wr).drop j = i :: (idsOf P.wr).drop (j + 1) := by
            have hl : j < (idsOf P.wr).length := by rw [HN.out]; exact hjn
            rw [List.drop_eq_getElem_cons hl]
            congr 1
            rw [List.getElem?_eq_getElem hl] at hi
            exact Option.some.inj hi
          have REST : Hid ((match firstFree u with | some p => assignT P.wr (flipAt u p) ((idsOf P.wr).drop (j + 1)) (t.put (i : Int) (p, ((P.wr (i : Int)).getD []).length)) | none => none) = P.next) := by
            have := NY.out.rest
            rw [hdrop] at this
            exact this
          clear hcell hi hmem hdrop
          go_wp2_with fail
          refine (take_any gs u wr (HT.out.later NY.out.below) NY.out.sp).mono ?_
          rintro e w6 ⟨rfl, hs6, hg6, hz6⟩
          cases hff : firstFree u with
          | none =>
            have HTK : Hid (takeB u = (u, 0, 91)) := by unfold takeB; rw [Hid, hff]
            have HNX : Hid (P.next = none) := by rw [Hid, ← REST.out, hff]
            have Q6 := Lib.hid (NY.out.below.grown hg6 NY.out.below.size (fun j hj => by cases hj; exact NY.out.gs0))
            have KS6 := Lib.hid (kind_blk hs6.1)
            rw [HTK.out]
            clear hff hs6 hg6 hz6
            go_wp2_with fail
            go_ret2
            exact ⟨.inr ⟨HNX.out, rfl⟩, Q6.out, by rw [HGS.out]; exact KS6.out⟩
          | some q =>
            have HTK : Hid (takeB u = (flipAt u q, q, 0)) := by unfold takeB; rw [Hid, hff]
            have HRS : Hid (assignT P.wr (flipAt u q) ((idsOf P.wr).drop (j + 1)) (t.put (i : Int) (q, ((P.wr (i : Int)).getD []).length)) = P.next) := by
              have := REST.out
              rw [hff] at this
              exact this
            rw [HTK.out] at hs6 ⊢
            have q6 := NY.out.below.grown hg6 NY.out.below.size (fun j hj => by cases hj; exact NY.out.gs0)
            have HP6 := Lib.hid (HP.out.later q6)
            have OUT6 := Lib.hid (NY.out.out.at (hg6.block _ NY.out.out.lt (fun e => NY.out.ne1 (Option.some.inj e).symm)))
            have SL6 := Lib.hid (SL.out.grown hg6 (fun b hb => by have := hb.2; have := HW.out; omega) (fun b hb e => by have := Option.some.inj e; have := HG4.out; omega))
            have HW6 : Hid (w5.heap.size ≤ w6.heap.size) := Nat.le_trans HW.out hg6.size
            have SP6 := Lib.hid hs6
            have Q6 := Lib.hid q6
            have N6 := Lib.hid (And.intro NY.out.gs0 (And.intro NY.out.bo0 NY.out.ne1))
            obtain ⟨mw, hmw, hrw⟩ := HP6.out.wr.mp
            have hii : InI (i : Int) := by unfold InI; omega
            have l6 := hmw.look1 intTy wrTy (nilBytes w6) hii
            obtain ⟨A6, c6, hA6, -⟩ := (hrw _ hii).get
            rw [hA6] at l6
            have hlen6 : ((P.wr (i : Int)).getD []).length ≤ 2048 := by
              cases hh : P.wr (i : Int) with
              | none => simp
              | some b => exact HWL.out _ b hh
            generalize ((P.wr (i : Int)).getD []).length = ln at *
            have d6 : w6.cell? ⟨Z.g, 6, none⟩ = some (.map (some Z.bw)) := HP6.out.blk.cell 6
            obtain ⟨w7, r7, h7, t7⟩ := OUT6.out.put (a := (i : Int)) (by omega) (by omega) (q, ln)
            have NY7 : Hid (NySt w w7 Z P gs bo (flipAt u q) (j + 1) (t.put (i : Int) (q, ln))) := ⟨SP6.out.grown t7.grown (fun e => N6.out.2.2 (Option.some.inj e).symm), h7, HRS.out, Q6.out.grown t7.grown Q6.out.size (fun j hj => by cases hj; exact N6.out.2.1), N6.out.1, N6.out.2.1, N6.out.2.2⟩
            have SL7 := Lib.hid (SL6.out.grown t7.grown (fun b hb => by have := hb.2; have := HW6.out; omega) (fun b hb e => by have := Option.some.inj e; have := HB4.out; omega))
            have HW7 : Hid (w5.heap.size ≤ w7.heap.size) := Nat.le_trans HW6.out t7.grown.size
            clear hff hs6 hg6 hz6 q6 hmw hrw hA6 h7 t7 k0 REST
            go_wp2_with fail
            go_roundw
            case rel => exact ⟨j + 1, _, _, by go_num, by omega, NY7, SL7, HW7⟩
            case measure => simp [intOf]; omega
        · obtain rfl : j = n := by omega
          have HNX : Hid (P.next = some t) := by
            have := NY.out.rest
            rw [List.drop_eq_nil_of_le (by rw [HN.out]; exact Nat.le_refl _)] at this
            exact this.symm
          go_wp2_with fail
          go_ret2
          exact ⟨.inl ⟨t, bo, HNX.out, rfl, NY.out.out, NY.out.bo0⟩, NY.out.below, by rw [HGS.out]; exact kind_blk NY.out.sp.1⟩
    · intro x c w3 cnt1 hx hlx hmx hrg1 hlt1 hg3 hs3 hen
      obtain ⟨⟨p, l⟩, hpl⟩ : ∃ y, P.tb x = some y := by
        unfold tbV at hmx
        cases hh : P.tb x with
        | none => rw [hh] at hmx; cases hmx
        | some y => exact ⟨y, rfl⟩
      have hc : c = .agg #[.int .i64 (p : Int), .int .i64 (l : Int)] := by
        unfold tbV at hmx
        rw [hpl] at hmx
        exact (Option.some.inj hmx).symm
      subst hc
      have h9 := HTB.out.in90 x (by rw [hpl]; rfl)
      have hpn := (HTB.out.row x p l hpl).1
      obtain ⟨tk1, tk2, tk3⟩ := takenT_minus HTB.out hlx hpl
      have HK := Lib.hid (keptT_minus (g := P.gn) hlx hpl)
      have TK3 := Lib.hid tk3
      have TKC := Lib.hid (claimB_free tk2 tk1)
      have q3 : Below w.heap.size w w3 := ST.out.below.grown hg3 ST.out.below.size (fun j hj => by cases hj; exact ST.out.gr0)
      have SP3 := Lib.hid (ST.out.sp.grown hg3 (fun e => ST.out.ne2 (Option.some.inj e).symm))
      have OUT3 := Lib.hid (ST.out.out.at (hg3.block _ ST.out.out.lt (fun e => ST.out.ne3 (Option.some.inj e))))
      have HPG := Lib.hid (HP.out.later (q3.mono (Nat.le_refl _)))
      have HRG := Lib.hid hrg1
      have HX := Lib.hid hx
      have HLX := Lib.hid hlx
      have H90 := Lib.hid h9
      have NE := Lib.hid (And.intro ST.out.ne1 (And.intro ST.out.ne2 ST.out.ne3))
      have G0 := Lib.hid (And.intro ST.out.gs0 (And.intro ST.out.bo0 ST.out.gr0))
      have HCN := Lib.hid ST.out.rg.left_eq
      have HLT := Lib.hid hlt1
      clear hmx hpl h9 tk1 tk2 tk3 hrg1 hlt1 hg3 hs3 hrg ST hx hlx
      have Q3 := Lib.hid q3
      have hsz3 := q3.size
      have qa : Below w3.heap.size w3 (w3.alloc (.cells #[.int .i64 (p : Int), .int .i64 (l : Int)] 108)) := (Below.refl _ _).alloc (Nat.le_refl _) _
      have SPA := Lib.hid (SP3.out.later qa)
      have BXA := Lib.hid (Blk.new w3 108 #[.int .i64 (p : Int), .int .i64 (l : Int)])
      have OUTA := Lib.hid (OUT3.out.later qa)
      have QA := Lib.hid (q3.trans (qa.mono hsz3))
      have HGA : Hid ((w3.alloc (.cells #[.int .i64 (p : Int), .int .i64 (l : Int)] 108)).grownBy (w3.alloc (.cells #[.int .i64 (p : Int), .int .i64 (l : Int)] 108)) none) := World.grownBy.refl _ _
      have hgsx : gs < w3.heap.size := SP3.out.1.lt
      have HRA := Lib.hid (RgV.kept HRG.out (grown_of_below qa) (by simp) (by simp))
      clear SP3 OUT3 HRG q3 qa HGA HPG
      go_wp2_with fail
      refine (claim_any gs (takenT P.n P.tb left) (p : Int) _ SPA.out (by omega)).mono ?_
      rintro e w4 ⟨rfl, hs4, hg4, hz4⟩
      rw [TKC.out] at hs4 ⊢
      have q4 := QA.out.grown hg4 QA.out.size (fun j hj => by cases hj; exact G0.out.1)
      have HP4 := Lib.hid (HP.out.later q4)
      have l2 := HP4.out.gn.mp.look intTy gnTy (zeroIn w4) HX.out
      rw [gnV_some] at l2
      have d7 : w4.cell? ⟨Z.g, 7, none⟩ = some (.map (some Z.bg)) := HP4.out.blk.cell 7
      have BX4 := Lib.hid (BXA.out.grown hg4 (fun e => by have := Option.some.inj e; omega))
      have x0 : w4.cell? ⟨w3.heap.size, 0, none⟩ = some (.int .i64 (p : Int)) := BX4.out.cell 0
      have x1 : w4.cell? ⟨w3.heap.size, 1, none⟩ = some (.int .i64 (l : Int)) := BX4.out.cell 1
      have OUT4 := Lib.hid (OUTA.out.at (hg4.block _ OUTA.out.lt (fun e => NE.out.1 (Option.some.inj e).symm)))
      have RG4 := Lib.hid (RgV.kept HRA.out hg4 (fun e => by have := Option.some.inj e; omega) (fun e => NE.out.2.1 (Option.some.inj e).symm))
      have SP4 : Hid (Sp w4 gs (takenT P.n P.tb (minus left x))) := by rw [TK3.out]; exact hs4
      have Q4 := Lib.hid q4
      clear hs4 hg4 hz4 q4 SPA BXA OUTA HRA QA Q3
      generalize w3.heap.size = gx at *
      cases hg : P.gn x with
      | true =>
        rw [hg] at l2
        have OUT5 : Hid (Tbl w4 bo (keptT P.tb P.gn (minus left x))) := by rw [HK.out, hg]; exact OUT4.out
        clear hg
        go_wp2_with fail
        go_roundw
        case rel => exact ⟨_, cnt1, RG4.out, SP4.out, OUT5.out, HP4.out.gn, Q4.out, G0.out.1, G0.out.2.1, G0.out.2.2, NE.out.1, NE.out.2.1, NE.out.2.2⟩
        case measure => rw [RG4.out.left_eq, HCN.out]; exact HLT.out
      | false =>
        rw [hg] at l2
        obtain ⟨w5, r5, h5, t5⟩ := OUT4.out.put H90.out.1 H90.out.2 (p, l)
        have OUT5 : Hid (Tbl w5 bo (keptT P.tb P.gn (minus left x))) := by rw [HK.out, hg]; exact h5
        have RG5 := Lib.hid (RgV.kept RG4.out t5.grown (fun e => by have := Option.some.inj e; have := HP.out.tb.lt; omega) (fun e => NE.out.2.2 (Option.some.inj e).symm))
        have SP5 := Lib.hid (SP4.out.grown t5.grown (fun e => NE.out.1 (Option.some.inj e).symm))
        have Q5 := Lib.hid (Q4.out.grown t5.grown Q4.out.size (fun j hj => by cases hj; exact G0.out.2.1))
        have GN5 := Lib.hid (HP.out.gn.later Q5.out)
        clear hg h5 t5
        go_wp2_with fail
        go_roundw
        case rel => exact ⟨_, cnt1, RG5.out, SP5.out, OUT5.out, GN5.out, Q5.out, G0.out.1, G0.out.2.1, G0.out.2.2, NE.out.1, NE.out.2.1, NE.out.2.2⟩
        case measure => rw [RG5.out.left_eq, HCN.out]; exact HLT.out
end Go.Proofs.YtildohndbeagaaaGreatDoor
